/-
  A drawn region in which two blocks that are there are stored into, each once (what a call hands back); all other blocks that were there stay: its walk in the order of the text.
  A drawn region in which operations yield what is known only by a property and store into blocks: what is known is told by promises (made by an operation or true from the start, true until another one is done). Conditions: what is known stays true while what it speaks of stays.
  What is promised of what a walk hands back (where, which fault, what was read, whether it may be asked) in a drawn region that puts it into variables. Conditions: none.
-/
import Derived.Test.YtddbndmbcdeggaaPut
import Derived.Test.YtddbndmbcdeggaaProm
import Derived.Test.YtddbndmbcdeggaaWkC
import Derived.Test.YtddbndmbcdeggaaWkB
namespace Go.Proofs.Ytddbndmbcdeggaa
open Go Go.RowKit

section
variable {P : Program} {ops : Array Oper} {md : Region.Mode} {W : World} {g1 s1 g2 s2 : Nat} {T1 T2 : TypeId} {Z1 V1 Z2 V2 : Array Value}

/-- Blocks g1 and g2 are stored into by operations s1 and s2; of all else that was there nothing has turned. -/
def Put2C (W : World) (s1 g1 : Nat) (T1 : TypeId) (Z1 V1 : Array Value) (s2 g2 : Nat) (T2 : TypeId) (Z2 V2 : Array Value) (d : Nat → Bool) (w : World) : Prop :=
  Below g1 W w ∧ (∀ x, x < W.heap.size → x ≠ g1 → x ≠ g2 → w.heap[x]? = W.heap[x]?) ∧ w.heap[g1]? = some (.cells (if d s1 then V1 else Z1) T1 (0, 0)) ∧ w.heap[g2]? = some (.cells (if d s2 then V2 else Z2) T2 (0, 0))

theorem put2_start (h1 : W.heap[g1]? = some (.cells Z1 T1 (0, 0))) (h2 : W.heap[g2]? = some (.cells Z2 T2 (0, 0))) : Put2C W s1 g1 T1 Z1 V1 s2 g2 T2 Z2 V2 (fun _ => false) W.drew := ⟨(Below.refl _ _).drew, fun _ _ _ _ => rfl, h1, h2⟩

theorem done1_ne {d : Nat → Bool} {i s : Nat} (h : (i == s) = false) : done1 d i s = d s := by
  unfold done1
  rw [show (s == i) = false by rw [Bool.beq_comm] at h; simpa using h]
  rfl

theorem put2_step {d : Nat → Bool} {i : Nat} {w w' : World} (h : Put2C W s1 g1 T1 Z1 V1 s2 g2 T2 Z2 V2 d w) (hb : Below w.heap.size w w') (h1 : (i == s1) = false) (h2 : (i == s2) = false) : Put2C W s1 g1 T1 Z1 V1 s2 g2 T2 Z2 V2 (done1 d i) w' := by
  obtain ⟨k1, k2, k3, k4⟩ := h
  have l1 := heap_lt k3
  have l2 := heap_lt k4
  refine ⟨k1.trans (hb.mono (Nat.le_of_lt l1)), fun x hx n1 n2 => (hb.block x (Nat.lt_of_lt_of_le hx k1.size)).trans (k2 x hx n1 n2), ?_, ?_⟩
  · rw [hb.block g1 l1, k3, done1_ne h1]
  · rw [hb.block g2 l2, k4, done1_ne h2]

theorem wpLex_put2 {Q : Act → Prop} {o : Oper} {rest : List Oper} {i : Nat} {a : Act} (hw : Region.wanted o (yielded ops a.tmps) = true) (h1 : (i == s1) = false) (h2 : (i == s2) = false)
    (h : ∃ v, (∀ w, W.heap.size ≤ w.heap.size → (∀ x, x < W.heap.size → x ≠ g1 → x ≠ g2 → w.heap[x]? = W.heap[x]?) → (Z1 = V1 → w.heap[g1]? = some (.cells Z1 T1 (0, 0))) → (Z2 = V2 → w.heap[g2]? = some (.cells Z2 T2 (0, 0))) → UponC P (fun u w' => u = v ∧ Below w.heap.size w w') ((execOp a.eval o).run P w)) ∧ wpLex P md ops [] (fun d _ w => Put2C W s1 g1 T1 Z1 V1 s2 g2 T2 Z2 V2 d w) Q rest (i + 1) (a.put o.dst v)) :
    wpLex P md ops [] (fun d _ w => Put2C W s1 g1 T1 Z1 V1 s2 g2 T2 Z2 V2 d w) Q (o :: rest) i a := by
  obtain ⟨v, hv, hr⟩ := h
  exact wpLex_want v hw (comes_done fun d w _ hc => (hv w hc.1.size hc.2.1 (fun e => by rw [hc.2.2.1]; subst e; simp) (fun e => by rw [hc.2.2.2]; subst e; simp)).mono fun u w' ⟨e1, e2⟩ => ⟨e1, put2_step hc e2 h1 h2⟩) hr

theorem wpLex_put2a {Q : Act → Prop} {o : Oper} {rest : List Oper} {i : Nat} {a : Act} (hw : Region.wanted o (yielded ops a.tmps) = true) (hi : i = s1) (hs : (i == s2) = false) (hne : g1 ≠ g2) (v : Value)
    (h : ∀ w, w.heap[g1]? = some (.cells Z1 T1 (0, 0)) → UponC P (fun u w' => u = v ∧ Below g1 w w' ∧ (∀ x, x ≠ g1 → w'.heap[x]? = w.heap[x]?) ∧ w'.heap[g1]? = some (.cells V1 T1 (0, 0))) ((execOp a.eval o).run P w))
    (hr : wpLex P md ops [] (fun d _ w => Put2C W s1 g1 T1 Z1 V1 s2 g2 T2 Z2 V2 d w) Q rest (i + 1) (a.put o.dst v)) :
    wpLex P md ops [] (fun d _ w => Put2C W s1 g1 T1 Z1 V1 s2 g2 T2 Z2 V2 d w) Q (o :: rest) i a := by
  subst hi
  refine wpLex_want v hw (comes_done fun d w hm hc => ?_) hr
  obtain ⟨k1, k2, k3, k4⟩ := hc
  rw [hm.1] at k3
  refine (h w k3).mono fun u w' ⟨e1, e2, e3, e4⟩ => ⟨e1, k1.trans e2, fun x hx n1 n2 => (e3 x n1).trans (k2 x hx n1 n2), ?_, ?_⟩
  · rw [show done1 d i i = true by simp [done1]]
    exact e4
  · rw [e3 g2 (Ne.symm hne), k4, done1_ne hs]

theorem wpLex_put2b {Q : Act → Prop} {o : Oper} {rest : List Oper} {i : Nat} {a : Act} (hw : Region.wanted o (yielded ops a.tmps) = true) (hi : i = s2) (hs : (i == s1) = false) (hne : g1 < g2) (v : Value)
    (h : ∀ w, w.heap[g2]? = some (.cells Z2 T2 (0, 0)) → UponC P (fun u w' => u = v ∧ Below g2 w w' ∧ (∀ x, x ≠ g2 → w'.heap[x]? = w.heap[x]?) ∧ w'.heap[g2]? = some (.cells V2 T2 (0, 0))) ((execOp a.eval o).run P w))
    (hr : wpLex P md ops [] (fun d _ w => Put2C W s1 g1 T1 Z1 V1 s2 g2 T2 Z2 V2 d w) Q rest (i + 1) (a.put o.dst v)) :
    wpLex P md ops [] (fun d _ w => Put2C W s1 g1 T1 Z1 V1 s2 g2 T2 Z2 V2 d w) Q (o :: rest) i a := by
  subst hi
  refine wpLex_want v hw (comes_done fun d w hm hc => ?_) hr
  obtain ⟨k1, k2, k3, k4⟩ := hc
  rw [hm.1] at k4
  refine (h w k4).mono fun u w' ⟨e1, e2, e3, e4⟩ => ⟨e1, k1.trans (e2.mono (Nat.le_of_lt hne)), fun x hx n1 n2 => (e3 x n2).trans (k2 x hx n1 n2), ?_, ?_⟩
  · rw [e3 g1 (Nat.ne_of_lt hne), k3, done1_ne hs]
  · rw [show done1 d i i = true by simp [done1]]
    exact e4

theorem passes_put2 {o : Oper} {i : Nat} {a : Act} (h1 : (i == s1) = false) (h2 : (i == s2) = false) : Passes md ops [] (fun d _ w => Put2C W s1 g1 T1 Z1 V1 s2 g2 T2 Z2 V2 d w) o i a :=
  passes_done fun _ _ _ hc => put2_step hc (Below.refl _ _) h1 h2

theorem put2_done {d : Nat → Bool} {w : World} (h : Put2C W s1 g1 T1 Z1 V1 s2 g2 T2 Z2 V2 d w) (h1 : d s1 = true) (h2 : d s2 = true) :
    Below g1 W w ∧ (∀ x, x < W.heap.size → x ≠ g1 → x ≠ g2 → w.heap[x]? = W.heap[x]?) ∧ w.heap[g1]? = some (.cells V1 T1 (0, 0)) ∧ w.heap[g2]? = some (.cells V2 T2 (0, 0)) := by
  obtain ⟨k1, k2, k3, k4⟩ := h
  rw [h1] at k3
  rw [h2] at k4
  exact ⟨k1, k2, k3, k4⟩
end
end Go.Proofs.Ytddbndmbcdeggaa

namespace Go.Proofs.Ytddbndmbcdeggaa
open Go Go.RowKit

/-- From operation 'on' on (none: from the start) the value of 'slot' (none: no value) has V for good, and F in the world till operation 'off' is done. -/
structure Gp where
  on : Option Nat
  off : Option Nat
  slot : Option Tmp
  V : Value → Prop
  F : Value → World → Prop
def Gp.val (p : Gp) (u : Tmp → Value) : Value := match p.slot with | some s => u s | none => undef
def Gp.here (p : Gp) (b : Act) (v : Value) : Prop := match p.slot with | some s => b.tmps[s]? = some v | none => v = undef
def begun (x : Option Nat) (d : Nat → Bool) : Bool := match x with | none => true | some j => d j

def GenC (B : Nat) (W0 : World) (ps : List Gp) (d : Nat → Bool) (b : Act) (w : World) : Prop :=
  Below B W0 w ∧ ∀ p ∈ ps, begun p.on d = true → ∃ v, p.here b v ∧ p.V v ∧ (alive p.off d = true → p.F v w)
def StaysG (ps : List Gp) : Prop := ∀ p ∈ ps, ∀ v w w', p.F v w → Below w.heap.size w w' → p.F v w'
/-- It stays true when one block of type T is written over. -/
def Stab (T : TypeId) (F : Value → World → Prop) : Prop := ∀ v w w' (g : Nat) (cs : Array Value), F v w → w.heap[g]? = some (Obj.cells cs T (0, 0)) → (∀ x, x ≠ g → w'.heap[x]? = w.heap[x]?) → w.heap.size ≤ w'.heap.size → F v w'

/-- What an operation that makes a promise, or stores, is to show. -/
def MakeOk (p : Gp) (w : World) (x : Value) (w' : World) : Prop := p.V x ∧ p.F x w' ∧ Below w.heap.size w w'
theorem makeOk {p : Gp} {w : World} {x : Value} {w' : World} (h1 : p.V x) (h2 : p.F x w') (h3 : Below w.heap.size w w') : MakeOk p w x w' := ⟨h1, h2, h3⟩
def StoreOk (T : TypeId) (p : Gp) (B : Nat) (W0 w : World) (v x : Value) (w' : World) : Prop :=
  x = undef ∧ p.V v ∧ p.F v w' ∧ Below B W0 w' ∧ w.heap.size ≤ w'.heap.size ∧ ∃ (g : Nat) (cs : Array Value), w.heap[g]? = some (Obj.cells cs T (0, 0)) ∧ ∀ y, y ≠ g → w'.heap[y]? = w.heap[y]?
theorem storeOk {T : TypeId} {p : Gp} {B : Nat} {W0 w : World} {v : Value} {w' : World} (h1 : p.V v) (h2 : p.F v w') (h3 : Below B W0 w') (h4 : w.heap.size ≤ w'.heap.size) (g : Nat) {cs : Array Value} (h5 : w.heap[g]? = some (Obj.cells cs T (0, 0))) (h6 : ∀ y, y ≠ g → w'.heap[y]? = w.heap[y]?) : StoreOk T p B W0 w v undef w' := ⟨rfl, h1, h2, h3, h4, g, cs, h5, h6⟩
def UseOk (v : Value) (w : World) (x : Value) (w' : World) : Prop := x = v ∧ Below w.heap.size w w'

section
variable {P : Program} {ops : Array Oper} {md : Region.Mode} {B : Nat} {W0 : World} {ps : List Gp} {S : List Tmp}

theorem Gp.here_val {p : Gp} {b : Act} {v : Value} (h : p.here b v) : p.val (fun t => b.tmps.getD t undef) = v := by
  unfold Gp.here at h
  unfold Gp.val
  cases hs : p.slot with
  | none => rw [hs] at h; exact h.symm
  | some s =>
    rw [hs] at h
    dsimp only at h ⊢
    rw [Array.getD_eq_getD_getElem?, h]; rfl
theorem Gp.here_put {p : Gp} {b : Act} {v y : Value} {x : Option Tmp} (hx : x = none ∨ x ≠ p.slot) (h : p.here b y) : p.here (b.put x v) y := by
  unfold Gp.here at *
  cases hs : p.slot with
  | none => rw [hs] at h; exact h
  | some s =>
    rw [hs] at h
    dsimp only at h ⊢
    rcases hx with rfl | hx
    · exact h
    · rw [put_get_ne _ _ _ _ (by rw [← hs]; exact hx)]; exact h

theorem genC_looks (hS : ps.all (fun p => match p.slot with | some s => S.contains s | none => true) = true) : Looks S (GenC B W0 ps) := by
  intro d a w r v hr h
  refine ⟨h.1, fun p hp hd => ?_⟩
  obtain ⟨x, h1, h2⟩ := h.2 p hp hd
  refine ⟨x, Gp.here_put (.inr ?_) h1, h2⟩
  intro e
  have := List.all_eq_true.1 hS p hp
  rw [← e] at this
  simp at this
  exact hr this
theorem genC_start (a : Act) (h : ∀ p ∈ ps, p.on = none → p.slot = none ∧ p.V undef ∧ p.F undef W0.drew) : GenC B W0 ps (fun _ => false) a W0.drew := by
  refine ⟨(Below.refl _ _).drew, fun p hp hd => ?_⟩
  unfold begun at hd
  cases ho : p.on with
  | some j => rw [ho] at hd; cases hd
  | none =>
    obtain ⟨h1, h2, h3⟩ := h p hp ho
    exact ⟨undef, by unfold Gp.here; rw [h1], h2, fun _ => h3⟩

def useG (md : Region.Mode) (ops : Array Oper) (o : Oper) (i : Nat) (ps : List Gp) (j : Nat) : Bool := match ps[j]? with
  | none => false
  | some p => (match p.on with | none => true | some k => leans md o k) && (match p.off with | none => true | some k => k == i || waits md ops k i)
def KnownG (ps : List Gp) (js : List Nat) (u : Tmp → Value) (w : World) : Prop := ∀ j ∈ js, ∀ p, ps[j]? = some p → p.V (p.val u) ∧ p.F (p.val u) w
def didG (md : Region.Mode) (o : Oper) (ps : List Gp) (j : Nat) : Bool := match ps[j]? with
  | none => false
  | some p => (match p.on with | none => true | some k => leans md o k)
def KnownVG (ps : List Gp) (js : List Nat) (u : Tmp → Value) : Prop := ∀ j ∈ js, ∀ p, ps[j]? = some p → p.V (p.val u)

theorem begun_of {o : Oper} {i : Nat} {d : Nat → Bool} {x : Option Nat} (hm : MayComeUp md ops o i d) (h : (match x with | none => true | some k => leans md o k) = true) : begun x d = true := by
  unfold begun
  cases x with
  | none => rfl
  | some k => exact up_leans hm h
theorem knownG_of {o : Oper} {i : Nat} {d : Nat → Bool} {b : Act} {w : World} {js : List Nat} (hm : MayComeUp md ops o i d) (hc : GenC B W0 ps d b w) (hjs : js.all (useG md ops o i ps) = true) :
    KnownG ps js (fun t => b.tmps.getD t undef) w := by
  intro j hj p hp
  have h1 := List.all_eq_true.1 hjs j hj
  unfold useG at h1
  rw [hp] at h1
  simp only [Bool.and_eq_true] at h1
  obtain ⟨v, e1, e2, e3⟩ := hc.2 p (List.mem_of_getElem? hp) (begun_of hm h1.1)
  rw [Gp.here_val e1]
  refine ⟨e2, e3 ?_⟩
  have h2 := h1.2
  unfold alive
  cases hof : p.off with
  | none => rfl
  | some k =>
    rw [hof] at h2
    simp only [Bool.or_eq_true, beq_iff_eq] at h2
    rcases h2 with rfl | h2
    · simp [hm.1]
    · simp [up_waits hm h2]
theorem knownVG_of {o : Oper} {i : Nat} {d : Nat → Bool} {b : Act} {w : World} {js : List Nat} (hm : MayComeUp md ops o i d) (hc : GenC B W0 ps d b w) (hjs : js.all (didG md o ps) = true) :
    KnownVG ps js (fun t => b.tmps.getD t undef) := by
  intro j hj p hp
  have h1 := List.all_eq_true.1 hjs j hj
  unfold didG at h1
  rw [hp] at h1
  obtain ⟨v, e1, e2, _⟩ := hc.2 p (List.mem_of_getElem? hp) (begun_of hm h1)
  rw [Gp.here_val e1]
  exact e2
theorem begun_back {x : Option Nat} {d : Nat → Bool} {i : Nat} (h1 : (x != some i) = true) (h : begun x (done1 d i) = true) : begun x d = true := by
  unfold begun done1 at *
  cases x with
  | none => rfl
  | some k =>
    simp at h h1 ⊢
    rcases h with h | h
    · exact absurd h h1
    · exact h
theorem genC_keep {d : Nat → Bool} {i : Nat} {b : Act} {w w' : World} {x : Option Tmp} {v : Value} (hst : StaysG ps) (h : GenC B W0 ps d b w) (hb : Below w.heap.size w w') (p : Gp) (hp : p ∈ ps) (h1 : (p.on != some i) = true) (hx : x = none ∨ x ≠ p.slot)
    (hd : begun p.on (done1 d i) = true) : ∃ v', p.here (b.put x v) v' ∧ p.V v' ∧ (alive p.off (done1 d i) = true → p.F v' w') := by
  obtain ⟨y, e1, e2, e3⟩ := h.2 p hp (begun_back h1 hd)
  exact ⟨y, Gp.here_put hx e1, e2, fun ha => hst p hp _ _ _ (e3 (alive_back ha)) hb⟩

/-- No promise is made by operation i, none speaks of its slot. -/
def offG (ps : List Gp) (o : Oper) (i : Nat) : Bool := ps.all fun p => p.on != some i && (o.dst == none || o.dst != p.slot)
theorem offG_of {o : Oper} {i : Nat} {p : Gp} (h : offG ps o i = true) (hp : p ∈ ps) : (p.on != some i) = true ∧ (o.dst = none ∨ o.dst ≠ p.slot) := by
  have h1 := List.all_eq_true.1 h p hp
  simp only [Bool.and_eq_true, Bool.or_eq_true, beq_iff_eq, bne_iff_ne] at h1
  exact ⟨by simpa using h1.1, h1.2⟩

theorem wpLex_genUseV {Q : Act → Prop} {rest : List Oper} {o : Oper} {i : Nat} {a : Act} (js : List Nat) (hB : B ≤ W0.heap.size) (hst : StaysG ps) (hw : Region.wanted o (yielded ops a.tmps) = true) (hjs : js.all (didG md o ps) = true) (hdst : offG ps o i = true)
    (h : ∃ v, (∀ (u : Tmp → Value) w, Below B W0 w → KnownVG ps js u → UponC P (fun x w' => x = v ∧ Below w.heap.size w w') ((execOp (putS a S u).eval o).run P w)) ∧ wpLex P md ops S (GenC B W0 ps) Q rest (i + 1) (a.put o.dst v)) :
    wpLex P md ops S (GenC B W0 ps) Q (o :: rest) i a := by
  obtain ⟨v, hv, hr⟩ := h
  refine wpLex_want v hw (fun d w b hm hc ho => ?_) hr
  have hk := knownVG_of hm hc hjs
  rw [off_putS S a b ho]
  refine (hv _ w hc.1 hk).mono fun x w' ⟨k1, k2⟩ => ⟨.inr k1, hc.1.trans (k2.mono (Nat.le_trans hB hc.1.size)), fun p hp hd => ?_⟩
  rw [← off_putS S a b ho]
  exact genC_keep hst hc k2 p hp (offG_of hdst hp).1 (offG_of hdst hp).2 hd
theorem wpLex_genUse {Q : Act → Prop} {rest : List Oper} {o : Oper} {i : Nat} {a : Act} (js : List Nat) (hB : B ≤ W0.heap.size) (hst : StaysG ps) (hw : Region.wanted o (yielded ops a.tmps) = true) (hjs : js.all (useG md ops o i ps) = true) (hdst : offG ps o i = true)
    (h : ∃ v, (∀ (u : Tmp → Value) w, Below B W0 w → KnownG ps js u w → UponC P (fun x w' => x = v ∧ Below w.heap.size w w') ((execOp (putS a S u).eval o).run P w)) ∧ wpLex P md ops S (GenC B W0 ps) Q rest (i + 1) (a.put o.dst v)) :
    wpLex P md ops S (GenC B W0 ps) Q (o :: rest) i a := by
  obtain ⟨v, hv, hr⟩ := h
  refine wpLex_want v hw (fun d w b hm hc ho => ?_) hr
  have hk := knownG_of hm hc hjs
  rw [off_putS S a b ho]
  refine (hv _ w hc.1 hk).mono fun x w' ⟨k1, k2⟩ => ⟨.inr k1, hc.1.trans (k2.mono (Nat.le_trans hB hc.1.size)), fun p hp hd => ?_⟩
  rw [← off_putS S a b ho]
  exact genC_keep hst hc k2 p hp (offG_of hdst hp).1 (offG_of hdst hp).2 hd
theorem passes_gen {o : Oper} {i : Nat} {a : Act} (hst : StaysG ps) (hdst : offG ps o i = true) : Passes md ops S (GenC B W0 ps) o i a := by
  intro d w b _ hc _
  exact ⟨hc.1, fun p hp hd => genC_keep hst hc (Below.refl _ _) p hp (offG_of hdst hp).1 (offG_of hdst hp).2 hd⟩

def loneG (md : Region.Mode) (ops : Array Oper) (ps : List Gp) (m i : Nat) (t : Tmp) : Bool := (List.range ps.length).all fun k => k == m || match ps[k]? with
  | some q => q.on != some i && (q.slot != some t || (match q.on with | some j => waits md ops j i | none => false))
  | none => true

/-- An operation that makes one of them. -/
theorem wpLex_genMake {Q : Act → Prop} {rest : List Oper} {o : Oper} {i : Nat} {a : Act} (m : Nat) (p : Gp) (t : Tmp) (js : List Nat) (hB : B ≤ W0.heap.size) (hst : StaysG ps) (hp : ps[m]? = some p) (hon : (p.on == some i) = true) (hsl : (p.slot == some t) = true) (hw : Region.wanted o (yielded ops a.tmps) = true) (hjs : js.all (useG md ops o i ps) = true)
    (hdst : (o.dst == some t) = true) (hin : S.contains t = true) (hsz0 : decide (t < a.tmps.size) = true) (hl : loneG md ops ps m i t = true)
    (h : ∀ (u : Tmp → Value) w, Below B W0 w → KnownG ps js u w → UponC P (MakeOk p w) ((execOp (putS a S u).eval o).run P w)) (hr : wpLex P md ops S (GenC B W0 ps) Q rest (i + 1) (a.put o.dst undef)) :
    wpLex P md ops S (GenC B W0 ps) Q (o :: rest) i a := by
  have hd1 : o.dst = some t := by simpa using hdst
  have hs1 : p.slot = some t := by simpa using hsl
  have hsz : t < a.tmps.size := of_decide_eq_true hsz0
  refine wpLex_want undef hw (fun d w b hm hc ho => ?_) hr
  have hk := knownG_of hm hc hjs
  rw [off_putS S a b ho]
  refine (h _ w hc.1 hk).mono fun x w' ⟨k1, k2, k3⟩ => ⟨.inl ⟨_, hd1, by simpa using hin⟩, hc.1.trans (k3.mono (Nat.le_trans hB hc.1.size)), fun q hq hd => ?_⟩
  rw [← off_putS S a b ho]
  obtain ⟨k, hkl, hkq⟩ := List.getElem_of_mem hq
  by_cases hkm : k = m
  · subst hkm
    have : q = p := by
      have h2 := List.getElem?_eq_getElem hkl
      rw [hkq, hp] at h2
      exact (Option.some.inj h2).symm
    subst this
    refine ⟨x, ?_, k1, fun _ => k2⟩
    unfold Gp.here
    rw [hs1]
    dsimp only
    rw [hd1, put_get_same, ho.2.1, if_pos hsz]
  · have h1 := List.all_eq_true.1 hl k (List.mem_range.2 hkl)
    rw [List.getElem?_eq_getElem hkl, hkq] at h1
    simp only [Bool.or_eq_true, beq_iff_eq, Bool.and_eq_true, hkm, false_or] at h1
    rcases h1.2 with h2 | h2
    · exact genC_keep hst hc k3 q hq h1.1 (.inr (by rw [hd1]; intro e; simp [← e] at h2)) hd
    · cases hqo : q.on with
      | none => rw [hqo] at h2; cases h2
      | some j =>
        rw [hqo] at h2
        have h3 := up_waits hm h2
        have h4 : (q.on != some i) = true := h1.1
        have h5 := begun_back h4 hd
        unfold begun at h5
        rw [hqo] at h5
        dsimp only at h5
        rw [h3] at h5
        cases h5

def loneSG (ps : List Gp) (m i : Nat) : Bool := (List.range ps.length).all fun k => k == m || match ps[k]? with | some q => q.on != some i | none => true
def StabAll (T : TypeId) (i m : Nat) (ps : List Gp) : Prop := ∀ k q, ps[k]? = some q → k ≠ m → q.off ≠ some i → Stab T q.F

/-- An operation that stores into one block of type T. -/
theorem wpLex_genStore {Q : Act → Prop} {rest : List Oper} {o : Oper} {i : Nat} {a : Act} (T : TypeId) (m : Nat) (p : Gp) (js : List Nat) (hp : ps[m]? = some p) (hon : (p.on == some i) = true) (hw : Region.wanted o (yielded ops a.tmps) = true) (hjs : js.all (useG md ops o i ps) = true)
    (hdst : o.dst = none) (hsz0 : (match p.slot with | some s => decide (s < a.tmps.size) | none => true) = true) (hl : loneSG ps m i = true) (hsb : StabAll T i m ps)
    (h : ∀ (u : Tmp → Value) w, Below B W0 w → KnownG ps js u w → UponC P (StoreOk T p B W0 w (p.val u)) ((execOp (putS a S u).eval o).run P w)) (hr : wpLex P md ops S (GenC B W0 ps) Q rest (i + 1) a) :
    wpLex P md ops S (GenC B W0 ps) Q (o :: rest) i a := by
  refine wpLex_want undef hw (fun d w b hm hc ho => ?_) (by rw [hdst]; exact hr)
  have hk := knownG_of hm hc hjs
  rw [off_putS S a b ho]
  refine (h _ w hc.1 hk).mono fun x w' ⟨k0, k1, k2, k3, k4, g, cs, k5, k6⟩ => ⟨.inr k0, k3, fun q hq hd => ?_⟩
  rw [← off_putS S a b ho, hdst]
  obtain ⟨k, hkl, hkq⟩ := List.getElem_of_mem hq
  by_cases hkm : k = m
  · subst hkm
    have : q = p := by
      have h2 := List.getElem?_eq_getElem hkl
      rw [hkq, hp] at h2
      exact (Option.some.inj h2).symm
    subst this
    refine ⟨_, ?_, k1, fun _ => k2⟩
    unfold Gp.here Gp.val
    cases hs : q.slot with
    | none => rfl
    | some s =>
      rw [hs] at hsz0
      dsimp only at hsz0 ⊢
      have hs2 : s < b.tmps.size := by rw [ho.2.1]; exact of_decide_eq_true hsz0
      show b.tmps[s]? = some (b.tmps.getD s undef)
      rw [Array.getD_eq_getD_getElem?, Array.getElem?_eq_getElem hs2]
      rfl
  · have h1 := List.all_eq_true.1 hl k (List.mem_range.2 hkl)
    rw [List.getElem?_eq_getElem hkl, hkq] at h1
    simp only [Bool.or_eq_true, beq_iff_eq, hkm, false_or] at h1
    obtain ⟨y, e1, e2, e3⟩ := hc.2 q hq (begun_back h1 hd)
    refine ⟨y, e1, e2, fun ha => ?_⟩
    have hne : q.off ≠ some i := by
      intro e
      unfold alive done1 at ha
      rw [e] at ha
      simp at ha
    exact hsb k q (by rw [List.getElem?_eq_getElem hkl, hkq]) hkm hne _ _ _ _ _ (e3 (alive_back ha)) k5 k6 k4

theorem genC_end {d : Nat → Bool} {a b : Act} {w : World} {n : Nat} (h : GenC B W0 ps d b w) (hd : ∀ i, i < n → d i = true) (ho : Off S a b) :
    ∃ u : Tmp → Value, b = putS a S u ∧ Below B W0 w ∧ ∀ (j : Nat) p, ps[j]? = some p → (match p.on with | some k => decide (k < n) | none => true) = true → p.off = none → p.V (p.val u) ∧ p.F (p.val u) w := by
  refine ⟨_, off_putS S a b ho, h.1, fun j p hp hn hof => ?_⟩
  obtain ⟨v, e1, e2, e3⟩ := h.2 p (List.mem_of_getElem? hp) (by
    unfold begun
    cases hpo : p.on with
    | none => rfl
    | some k => rw [hpo] at hn; exact hd _ (of_decide_eq_true hn))
  rw [Gp.here_val e1]
  exact ⟨e2, e3 (by rw [hof]; rfl)⟩
end

theorem staysG_nil : StaysG [] := fun _ h => by cases h
theorem staysG_cons {p : Gp} {ps : List Gp} (h : ∀ v w w', p.F v w → Below w.heap.size w w' → p.F v w') (hs : StaysG ps) : StaysG (p :: ps) := fun q hq => by
  rcases List.mem_cons.1 hq with rfl | hq
  · exact h
  · exact hs q hq
theorem stab_nil {T : TypeId} {i m : Nat} : StabAll T i m [] := fun k q h => by simp at h
/-- One after the other: 'j' is where the list begins. -/
def StabFrom (T : TypeId) (i m j : Nat) (ps : List Gp) : Prop := ∀ k q, ps[k]? = some q → j + k ≠ m → q.off ≠ some i → Stab T q.F
theorem stabAll_of {T : TypeId} {i m : Nat} {ps : List Gp} (h : StabFrom T i m 0 ps) : StabAll T i m ps := fun k q hq hk => h k q hq (by omega)
theorem stabFrom_nil {T : TypeId} {i m j : Nat} : StabFrom T i m j [] := fun k q h => by simp at h
theorem stabFrom_cons {T : TypeId} {i m j : Nat} {p : Gp} {ps : List Gp} (h : j = m ∨ p.off = some i ∨ Stab T p.F) (hs : StabFrom T i m (j + 1) ps) : StabFrom T i m j (p :: ps) := fun k q hq hk hn => by
  cases k with
  | zero =>
    simp at hq
    subst hq
    rcases h with h | h | h
    · omega
    · exact absurd h hn
    · exact h
  | succ k => exact hs k q (by simpa using hq) (by omega) hn
end Go.Proofs.Ytddbndmbcdeggaa

namespace Go.Proofs.Ytddbndmbcdeggaa
open Go Go.RowKit

def NoW (_ : Value) : Prop := True
def QV (hc fc : Array Value) (es : List Value) (v : Value) : Prop := ∃ x, v = .tuple ([Value.agg hc, Value.agg fc, x] ++ es).toArray
def QF (B : Nat) (hc fc : Array Value) (es : List Value) (rd : List Int) (v : Value) (w : World) : Prop := ∃ R c, v = .tuple ([Value.agg hc, Value.agg fc, Value.slice R rd.length c] ++ es).toArray ∧ Own w B intT 1 intCells rd R c
def SlF (B : Nat) (rd : List Int) (v : Value) (w : World) : Prop := ∃ R c, v = .slice R rd.length c ∧ Own w B intT 1 intCells rd R c
def NewG (B0 : Nat) (T : TypeId) (cs : Array Value) (v : Value) (w : World) : Prop := ∃ g, v = .pointer (some ⟨g, 0, none⟩) ∧ B0 ≤ g ∧ w.heap[g]? = some (.cells cs T (0, 0))
/-- A block that is there. -/
def BlkG (g : Nat) (T : TypeId) (cs : Array Value) (_ : Value) (w : World) : Prop := w.heap[g]? = some (.cells cs T (0, 0))

theorem blkG_intro {g : Nat} {T : TypeId} {cs : Array Value} {v : Value} {w : World} (h : w.heap[g]? = some (.cells cs T (0, 0))) : BlkG g T cs v w := h

section
variable {B B0 g : Nat} {hc fc cs : Array Value} {es : List Value} {rd : List Int} {v : Value} {w w' : World} {T T' : TypeId}
theorem QF.keep (h : QF B hc fc es rd v w) (hb : Below w.heap.size w w') : QF B hc fc es rd v w' := by
  obtain ⟨R, c, e, h1⟩ := h
  exact ⟨R, c, e, h1.below hb (Nat.le_refl _)⟩
theorem SlF.keep (h : SlF B rd v w) (hb : Below w.heap.size w w') : SlF B rd v w' := by
  obtain ⟨R, c, e, h1⟩ := h
  exact ⟨R, c, e, h1.below hb (Nat.le_refl _)⟩
theorem NewG.keep (h : NewG B0 T cs v w) (hb : Below w.heap.size w w') : NewG B0 T cs v w' := by
  obtain ⟨g, e, h1, h2⟩ := h
  exact ⟨g, e, h1, (hb.block g (heap_lt h2)).trans h2⟩
theorem BlkG.keep (h : BlkG g T cs v w) (hb : Below w.heap.size w w') : BlkG g T cs v w' := (hb.block g (heap_lt h)).trans h

theorem Own.stab {α : Type} {e : TypeId} {size : Nat} {f : α → List Value} {l : List α} {A : Option Addr} {c : Nat} {x : Nat} {cx : Array Value} (h : Own w B e size f l A c) (hx : w.heap[x]? = some (.cells cx T (0, 0))) (hne : e ≠ T) (hk : ∀ y, y ≠ x → w'.heap[y]? = w.heap[y]?) : Own w' B e size f l A c := by
  refine ⟨h.1, ?_⟩
  rcases h.2 with ⟨h1, h2⟩ | ⟨y, cap, cur, h1, h2, h3, h4⟩
  · exact .inl ⟨h1, h2⟩
  · refine .inr ⟨y, cap, cur, h1, h2, (hk y ?_).trans h3, h4⟩
    intro e1
    subst e1
    rw [h3] at hx
    injection hx with hx
    injection hx with _ h5
    exact hne h5
theorem QF.stab (hne : intT ≠ T) : Stab T (QF B hc fc es rd) := fun v w w' g cs h hg hk _ => by
  obtain ⟨R, c, e, h1⟩ := h
  exact ⟨R, c, e, h1.stab hg hne hk⟩
theorem SlF.stab (hne : intT ≠ T) : Stab T (SlF B rd) := fun v w w' g cs h hg hk _ => by
  obtain ⟨R, c, e, h1⟩ := h
  exact ⟨R, c, e, h1.stab hg hne hk⟩
theorem blk_ne {x y : Nat} {cx cy : Array Value} (hx : w.heap[x]? = some (.cells cx T (0, 0))) (hy : w.heap[y]? = some (.cells cy T' (0, 0))) (hne : T' ≠ T) : y ≠ x := by
  intro e
  subst e
  rw [hy] at hx
  injection hx with hx
  injection hx with _ h5
  exact hne h5
theorem NewG.stab (hne : T' ≠ T) : Stab T (NewG B0 T' cs) := fun v w w' g cx h hg hk _ => by
  obtain ⟨y, e, h1, h2⟩ := h
  exact ⟨y, e, h1, (hk y (blk_ne hg h2 hne)).trans h2⟩
theorem BlkG.stab (hne : T' ≠ T) : Stab T (BlkG g T' cs) := fun _v _w _w' _x _cx h hg hk _ => (hk g (blk_ne hg h hne)).trans h
end

def zHit : Array Value := #[.int .i64 0, .int .i64 0, .bool false, .bool false, .bool false, .bool false, .bool false, .int .i64 0, .int .i64 0]
def zFault : Array Value := #[.int .i64 0, .int .i64 0, .int .i64 0, .bool false, .int .i64 0]

/-- New variables. -/
def quadPs (B0 B : Nat) (hc fc : Array Value) (es : List Value) (rd : List Int) (tc tm ts tb1 tb2 tl : Tmp) (ic im xs a1 a2 s1 s2 il : Nat) : List Gp :=
  [⟨some ic, none, some tc, QV hc fc es, QF B hc fc es rd⟩, ⟨some im, none, some tm, QV hc fc es, QF B hc fc es rd⟩, ⟨some xs, none, some ts, NoW, SlF B rd⟩, ⟨some a1, some s1, some tb1, NoW, NewG B0 hitT zHit⟩, ⟨some a2, some s2, some tb2, NoW, NewG B0 faultT zFault⟩,
    ⟨some s1, none, some tb1, NoW, NewG B0 hitT hc⟩, ⟨some s2, none, some tb2, NoW, NewG B0 faultT fc⟩, ⟨some il, none, some tl, NoW, SlF B rd⟩]
section
variable {B0 B : Nat} {hc fc : Array Value} {es : List Value} {rd : List Int} {tc tm ts tb1 tb2 tl : Tmp} {ic im xs a1 a2 s1 s2 il : Nat}
theorem stays_quad : StaysG (quadPs B0 B hc fc es rd tc tm ts tb1 tb2 tl ic im xs a1 a2 s1 s2 il) :=
  staysG_cons (fun _ _ _ h hb => QF.keep (hc := hc) (fc := fc) (es := es) (rd := rd) (B := B) h hb) (staysG_cons (fun _ _ _ h hb => QF.keep (hc := hc) (fc := fc) (es := es) (rd := rd) (B := B) h hb) (staysG_cons (fun _ _ _ h hb => SlF.keep (rd := rd) (B := B) h hb) (staysG_cons (fun _ _ _ h hb => NewG.keep h hb) (staysG_cons (fun _ _ _ h hb => NewG.keep h hb)
    (staysG_cons (fun _ _ _ h hb => NewG.keep h hb) (staysG_cons (fun _ _ _ h hb => NewG.keep h hb) (staysG_cons (fun _ _ _ h hb => SlF.keep (rd := rd) (B := B) h hb) staysG_nil)))))))
theorem stab_quad1 : StabAll hitT s1 5 (quadPs B0 B hc fc es rd tc tm ts tb1 tb2 tl ic im xs a1 a2 s1 s2 il) :=
  stabAll_of (stabFrom_cons (.inr (.inr (QF.stab (hc := hc) (fc := fc) (es := es) (rd := rd) (B := B) (by decide)))) (stabFrom_cons (.inr (.inr (QF.stab (hc := hc) (fc := fc) (es := es) (rd := rd) (B := B) (by decide)))) (stabFrom_cons (.inr (.inr (SlF.stab (by decide)))) (stabFrom_cons (.inr (.inl rfl)) (stabFrom_cons (.inr (.inr (NewG.stab (by decide))))
    (stabFrom_cons (.inl rfl) (stabFrom_cons (.inr (.inr (NewG.stab (by decide)))) (stabFrom_cons (.inr (.inr (SlF.stab (by decide)))) stabFrom_nil))))))))
theorem stab_quad2 : StabAll faultT s2 6 (quadPs B0 B hc fc es rd tc tm ts tb1 tb2 tl ic im xs a1 a2 s1 s2 il) :=
  stabAll_of (stabFrom_cons (.inr (.inr (QF.stab (hc := hc) (fc := fc) (es := es) (rd := rd) (B := B) (by decide)))) (stabFrom_cons (.inr (.inr (QF.stab (hc := hc) (fc := fc) (es := es) (rd := rd) (B := B) (by decide)))) (stabFrom_cons (.inr (.inr (SlF.stab (by decide)))) (stabFrom_cons (.inr (.inr (NewG.stab (by decide)))) (stabFrom_cons (.inr (.inl rfl))
    (stabFrom_cons (.inr (.inr (NewG.stab (by decide)))) (stabFrom_cons (.inl rfl) (stabFrom_cons (.inr (.inr (SlF.stab (by decide)))) stabFrom_nil))))))))
end

/-- Variables that are there: blocks g1 and g2. -/
def oldPs (B : Nat) (g1 g2 : Nat) (z1 z2 hc fc : Array Value) (es : List Value) (rd : List Int) (tc tm ts tl : Tmp) (ic im xs s1 s2 il : Nat) : List Gp :=
  [⟨some ic, none, some tc, QV hc fc es, QF B hc fc es rd⟩, ⟨some im, none, some tm, QV hc fc es, QF B hc fc es rd⟩, ⟨some xs, none, some ts, NoW, SlF B rd⟩, ⟨none, some s1, none, NoW, BlkG g1 hitT z1⟩, ⟨none, some s2, none, NoW, BlkG g2 faultT z2⟩,
    ⟨some s1, none, none, NoW, BlkG g1 hitT hc⟩, ⟨some s2, none, none, NoW, BlkG g2 faultT fc⟩, ⟨some il, none, some tl, NoW, SlF B rd⟩]
section
variable {B g1 g2 : Nat} {z1 z2 hc fc : Array Value} {es : List Value} {rd : List Int} {tc tm ts tl : Tmp} {ic im xs s1 s2 il : Nat}
theorem stays_old : StaysG (oldPs B g1 g2 z1 z2 hc fc es rd tc tm ts tl ic im xs s1 s2 il) :=
  staysG_cons (fun _ _ _ h hb => QF.keep (hc := hc) (fc := fc) (es := es) (rd := rd) (B := B) h hb) (staysG_cons (fun _ _ _ h hb => QF.keep (hc := hc) (fc := fc) (es := es) (rd := rd) (B := B) h hb) (staysG_cons (fun _ _ _ h hb => SlF.keep (rd := rd) (B := B) h hb) (staysG_cons (fun _ _ _ h hb => BlkG.keep (v := undef) h hb) (staysG_cons (fun _ _ _ h hb => BlkG.keep (v := undef) h hb)
    (staysG_cons (fun _ _ _ h hb => BlkG.keep (v := undef) h hb) (staysG_cons (fun _ _ _ h hb => BlkG.keep (v := undef) h hb) (staysG_cons (fun _ _ _ h hb => SlF.keep (rd := rd) (B := B) h hb) staysG_nil)))))))
theorem stab_old1 : StabAll hitT s1 5 (oldPs B g1 g2 z1 z2 hc fc es rd tc tm ts tl ic im xs s1 s2 il) :=
  stabAll_of (stabFrom_cons (.inr (.inr (QF.stab (hc := hc) (fc := fc) (es := es) (rd := rd) (B := B) (by decide)))) (stabFrom_cons (.inr (.inr (QF.stab (hc := hc) (fc := fc) (es := es) (rd := rd) (B := B) (by decide)))) (stabFrom_cons (.inr (.inr (SlF.stab (by decide)))) (stabFrom_cons (.inr (.inl rfl)) (stabFrom_cons (.inr (.inr (BlkG.stab (by decide))))
    (stabFrom_cons (.inl rfl) (stabFrom_cons (.inr (.inr (BlkG.stab (by decide)))) (stabFrom_cons (.inr (.inr (SlF.stab (by decide)))) stabFrom_nil))))))))
theorem stab_old2 : StabAll faultT s2 6 (oldPs B g1 g2 z1 z2 hc fc es rd tc tm ts tl ic im xs s1 s2 il) :=
  stabAll_of (stabFrom_cons (.inr (.inr (QF.stab (hc := hc) (fc := fc) (es := es) (rd := rd) (B := B) (by decide)))) (stabFrom_cons (.inr (.inr (QF.stab (hc := hc) (fc := fc) (es := es) (rd := rd) (B := B) (by decide)))) (stabFrom_cons (.inr (.inr (SlF.stab (by decide)))) (stabFrom_cons (.inr (.inr (BlkG.stab (by decide)))) (stabFrom_cons (.inr (.inl rfl))
    (stabFrom_cons (.inr (.inr (BlkG.stab (by decide)))) (stabFrom_cons (.inl rfl) (stabFrom_cons (.inr (.inr (SlF.stab (by decide)))) stabFrom_nil))))))))
theorem start_old {W : World} (h1 : W.heap[g1]? = some (.cells z1 hitT (0, 0))) (h2 : W.heap[g2]? = some (.cells z2 faultT (0, 0))) : ∀ p ∈ oldPs B g1 g2 z1 z2 hc fc es rd tc tm ts tl ic im xs s1 s2 il, p.on = none → p.slot = none ∧ p.V undef ∧ p.F undef W.drew := by
  intro p hp hn
  simp only [oldPs, List.mem_cons, List.not_mem_nil, or_false] at hp
  rcases hp with rfl | rfl | rfl | rfl | rfl | rfl | rfl | rfl
  all_goals first | exact ⟨rfl, trivial, h1⟩ | exact ⟨rfl, trivial, h2⟩ | (cases hn; done)
end
theorem start_quad {B0 B : Nat} {hc fc : Array Value} {es : List Value} {rd : List Int} {tc tm ts tb1 tb2 tl : Tmp} {ic im xs a1 a2 s1 s2 il : Nat} {W : World} : ∀ p ∈ quadPs B0 B hc fc es rd tc tm ts tb1 tb2 tl ic im xs a1 a2 s1 s2 il, p.on = none → p.slot = none ∧ p.V undef ∧ p.F undef W.drew := by
  intro p hp hn
  simp only [quadPs, List.mem_cons, List.not_mem_nil, or_false] at hp
  rcases hp with rfl | rfl | rfl | rfl | rfl | rfl | rfl | rfl
  all_goals cases hn

/-- What a walk's call hands back. -/
def WPost (w : World) (hc fc : Array Value) (es : List Value) (rd : List Int) (e : Ending) (w' : World) : Prop := ∃ R c, e = .returned (.tuple ([Value.agg hc, Value.agg fc, Value.slice R rd.length c] ++ es).toArray) ∧ Own w' w.heap.size intT 1 intCells rd R c ∧ Below w.heap.size w w'
end Go.Proofs.Ytddbndmbcdeggaa
