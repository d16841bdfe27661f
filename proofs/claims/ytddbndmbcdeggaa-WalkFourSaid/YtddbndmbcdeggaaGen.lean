/-
  A drawn region in which operations yield what is known only by a property and store into blocks: what is known is told by promises (made by an operation or true from the start, true until another one is done). Conditions: what is known stays true while what it speaks of stays.
-/
import Derived.Test.YtddbndmbcdeggaaProm
namespace Go.Proofs.Ytddbndmbcdeggaa
open Go Go.RowKit

/-- From operation 'on' on (none: from the start) the value of 'slot' (none: no value) has V for good, and F in the world till operation 'off' is done. -/
structure Gp where
  on : Option Nat
  off : Option Nat
  slot : Option Tmp
  V : Value → Prop
  F : Value → World → Prop
def Gp.val (p : Gp) (u : Tmp → Value) : Value := match p.slot with | some s => u s | none => undef
def Gp.here (p : Gp) (b : Act) (v : Value) : Prop := match p.slot with | some s => b.tmps[s]? = some v | none => v = undef
def begun (x : Option Nat) (d : Nat → Bool) : Bool := match x with | none => true | some j => d j

def GenC (B : Nat) (W0 : World) (ps : List Gp) (d : Nat → Bool) (b : Act) (w : World) : Prop :=
  Below B W0 w ∧ ∀ p ∈ ps, begun p.on d = true → ∃ v, p.here b v ∧ p.V v ∧ (alive p.off d = true → p.F v w)
def StaysG (ps : List Gp) : Prop := ∀ p ∈ ps, ∀ v w w', p.F v w → Below w.heap.size w w' → p.F v w'
/-- It stays true when one block of type T is written over. -/
def Stab (T : TypeId) (F : Value → World → Prop) : Prop := ∀ v w w' (g : Nat) (cs : Array Value), F v w → w.heap[g]? = some (Obj.cells cs T (0, 0)) → (∀ x, x ≠ g → w'.heap[x]? = w.heap[x]?) → w.heap.size ≤ w'.heap.size → F v w'

/-- What an operation that makes a promise, or stores, is to show. -/
def MakeOk (p : Gp) (w : World) (x : Value) (w' : World) : Prop := p.V x ∧ p.F x w' ∧ Below w.heap.size w w'
theorem makeOk {p : Gp} {w : World} {x : Value} {w' : World} (h1 : p.V x) (h2 : p.F x w') (h3 : Below w.heap.size w w') : MakeOk p w x w' := ⟨h1, h2, h3⟩
def StoreOk (T : TypeId) (p : Gp) (B : Nat) (W0 w : World) (v x : Value) (w' : World) : Prop :=
  x = undef ∧ p.V v ∧ p.F v w' ∧ Below B W0 w' ∧ w.heap.size ≤ w'.heap.size ∧ ∃ (g : Nat) (cs : Array Value), w.heap[g]? = some (Obj.cells cs T (0, 0)) ∧ ∀ y, y ≠ g → w'.heap[y]? = w.heap[y]?
theorem storeOk {T : TypeId} {p : Gp} {B : Nat} {W0 w : World} {v : Value} {w' : World} (h1 : p.V v) (h2 : p.F v w') (h3 : Below B W0 w') (h4 : w.heap.size ≤ w'.heap.size) (g : Nat) {cs : Array Value} (h5 : w.heap[g]? = some (Obj.cells cs T (0, 0))) (h6 : ∀ y, y ≠ g → w'.heap[y]? = w.heap[y]?) : StoreOk T p B W0 w v undef w' := ⟨rfl, h1, h2, h3, h4, g, cs, h5, h6⟩
def UseOk (v : Value) (w : World) (x : Value) (w' : World) : Prop := x = v ∧ Below w.heap.size w w'

section
variable {P : Program} {ops : Array Oper} {md : Region.Mode} {B : Nat} {W0 : World} {ps : List Gp} {S : List Tmp}

theorem Gp.here_val {p : Gp} {b : Act} {v : Value} (h : p.here b v) : p.val (fun t => b.tmps.getD t undef) = v := by
  unfold Gp.here at h
  unfold Gp.val
  cases hs : p.slot with
  | none => rw [hs] at h; exact h.symm
  | some s =>
    rw [hs] at h
    dsimp only at h ⊢
    rw [Array.getD_eq_getD_getElem?, h]; rfl
theorem Gp.here_put {p : Gp} {b : Act} {v y : Value} {x : Option Tmp} (hx : x = none ∨ x ≠ p.slot) (h : p.here b y) : p.here (b.put x v) y := by
  unfold Gp.here at *
  cases hs : p.slot with
  | none => rw [hs] at h; exact h
  | some s =>
    rw [hs] at h
    dsimp only at h ⊢
    rcases hx with rfl | hx
    · exact h
    · rw [put_get_ne _ _ _ _ (by rw [← hs]; exact hx)]; exact h

theorem genC_looks (hS : ps.all (fun p => match p.slot with | some s => S.contains s | none => true) = true) : Looks S (GenC B W0 ps) := by
  intro d a w r v hr h
  refine ⟨h.1, fun p hp hd => ?_⟩
  obtain ⟨x, h1, h2⟩ := h.2 p hp hd
  refine ⟨x, Gp.here_put (.inr ?_) h1, h2⟩
  intro e
  have := List.all_eq_true.1 hS p hp
  rw [← e] at this
  simp at this
  exact hr this
theorem genC_start (a : Act) (h : ∀ p ∈ ps, p.on = none → p.slot = none ∧ p.V undef ∧ p.F undef W0.drew) : GenC B W0 ps (fun _ => false) a W0.drew := by
  refine ⟨(Below.refl _ _).drew, fun p hp hd => ?_⟩
  unfold begun at hd
  cases ho : p.on with
  | some j => rw [ho] at hd; cases hd
  | none =>
    obtain ⟨h1, h2, h3⟩ := h p hp ho
    exact ⟨undef, by unfold Gp.here; rw [h1], h2, fun _ => h3⟩

def useG (md : Region.Mode) (ops : Array Oper) (o : Oper) (i : Nat) (ps : List Gp) (j : Nat) : Bool := match ps[j]? with
  | none => false
  | some p => (match p.on with | none => true | some k => leans md o k) && (match p.off with | none => true | some k => k == i || waits md ops k i)
def KnownG (ps : List Gp) (js : List Nat) (u : Tmp → Value) (w : World) : Prop := ∀ j ∈ js, ∀ p, ps[j]? = some p → p.V (p.val u) ∧ p.F (p.val u) w
def didG (md : Region.Mode) (o : Oper) (ps : List Gp) (j : Nat) : Bool := match ps[j]? with
  | none => false
  | some p => (match p.on with | none => true | some k => leans md o k)
def KnownVG (ps : List Gp) (js : List Nat) (u : Tmp → Value) : Prop := ∀ j ∈ js, ∀ p, ps[j]? = some p → p.V (p.val u)

theorem begun_of {o : Oper} {i : Nat} {d : Nat → Bool} {x : Option Nat} (hm : MayComeUp md ops o i d) (h : (match x with | none => true | some k => leans md o k) = true) : begun x d = true := by
  unfold begun
  cases x with
  | none => rfl
  | some k => exact up_leans hm h
theorem knownG_of {o : Oper} {i : Nat} {d : Nat → Bool} {b : Act} {w : World} {js : List Nat} (hm : MayComeUp md ops o i d) (hc : GenC B W0 ps d b w) (hjs : js.all (useG md ops o i ps) = true) :
    KnownG ps js (fun t => b.tmps.getD t undef) w := by
  intro j hj p hp
  have h1 := List.all_eq_true.1 hjs j hj
  unfold useG at h1
  rw [hp] at h1
  simp only [Bool.and_eq_true] at h1
  obtain ⟨v, e1, e2, e3⟩ := hc.2 p (List.mem_of_getElem? hp) (begun_of hm h1.1)
  rw [Gp.here_val e1]
  refine ⟨e2, e3 ?_⟩
  have h2 := h1.2
  unfold alive
  cases hof : p.off with
  | none => rfl
  | some k =>
    rw [hof] at h2
    simp only [Bool.or_eq_true, beq_iff_eq] at h2
    rcases h2 with rfl | h2
    · simp [hm.1]
    · simp [up_waits hm h2]
theorem knownVG_of {o : Oper} {i : Nat} {d : Nat → Bool} {b : Act} {w : World} {js : List Nat} (hm : MayComeUp md ops o i d) (hc : GenC B W0 ps d b w) (hjs : js.all (didG md o ps) = true) :
    KnownVG ps js (fun t => b.tmps.getD t undef) := by
  intro j hj p hp
  have h1 := List.all_eq_true.1 hjs j hj
  unfold didG at h1
  rw [hp] at h1
  obtain ⟨v, e1, e2, _⟩ := hc.2 p (List.mem_of_getElem? hp) (begun_of hm h1)
  rw [Gp.here_val e1]
  exact e2
theorem begun_back {x : Option Nat} {d : Nat → Bool} {i : Nat} (h1 : (x != some i) = true) (h : begun x (done1 d i) = true) : begun x d = true := by
  unfold begun done1 at *
  cases x with
  | none => rfl
  | some k =>
    simp at h h1 ⊢
    rcases h with h | h
    · exact absurd h h1
    · exact h
theorem genC_keep {d : Nat → Bool} {i : Nat} {b : Act} {w w' : World} {x : Option Tmp} {v : Value} (hst : StaysG ps) (h : GenC B W0 ps d b w) (hb : Below w.heap.size w w') (p : Gp) (hp : p ∈ ps) (h1 : (p.on != some i) = true) (hx : x = none ∨ x ≠ p.slot)
    (hd : begun p.on (done1 d i) = true) : ∃ v', p.here (b.put x v) v' ∧ p.V v' ∧ (alive p.off (done1 d i) = true → p.F v' w') := by
  obtain ⟨y, e1, e2, e3⟩ := h.2 p hp (begun_back h1 hd)
  exact ⟨y, Gp.here_put hx e1, e2, fun ha => hst p hp _ _ _ (e3 (alive_back ha)) hb⟩

/-- No promise is made by operation i, none speaks of its slot. -/
def offG (ps : List Gp) (o : Oper) (i : Nat) : Bool := ps.all fun p => p.on != some i && (o.dst == none || o.dst != p.slot)
theorem offG_of {o : Oper} {i : Nat} {p : Gp} (h : offG ps o i = true) (hp : p ∈ ps) : (p.on != some i) = true ∧ (o.dst = none ∨ o.dst ≠ p.slot) := by
  have h1 := List.all_eq_true.1 h p hp
  simp only [Bool.and_eq_true, Bool.or_eq_true, beq_iff_eq, bne_iff_ne] at h1
  exact ⟨by simpa using h1.1, h1.2⟩

theorem wpLex_genUseV {Q : Act → Prop} {rest : List Oper} {o : Oper} {i : Nat} {a : Act} (js : List Nat) (hB : B ≤ W0.heap.size) (hst : StaysG ps) (hw : Region.wanted o (yielded ops a.tmps) = true) (hjs : js.all (didG md o ps) = true) (hdst : offG ps o i = true)
    (h : ∃ v, (∀ (u : Tmp → Value) w, Below B W0 w → KnownVG ps js u → UponC P (fun x w' => x = v ∧ Below w.heap.size w w') ((execOp (putS a S u).eval o).run P w)) ∧ wpLex P md ops S (GenC B W0 ps) Q rest (i + 1) (a.put o.dst v)) :
    wpLex P md ops S (GenC B W0 ps) Q (o :: rest) i a := by
  obtain ⟨v, hv, hr⟩ := h
  refine wpLex_want v hw (fun d w b hm hc ho => ?_) hr
  have hk := knownVG_of hm hc hjs
  rw [off_putS S a b ho]
  refine (hv _ w hc.1 hk).mono fun x w' ⟨k1, k2⟩ => ⟨.inr k1, hc.1.trans (k2.mono (Nat.le_trans hB hc.1.size)), fun p hp hd => ?_⟩
  rw [← off_putS S a b ho]
  exact genC_keep hst hc k2 p hp (offG_of hdst hp).1 (offG_of hdst hp).2 hd
theorem wpLex_genUse {Q : Act → Prop} {rest : List Oper} {o : Oper} {i : Nat} {a : Act} (js : List Nat) (hB : B ≤ W0.heap.size) (hst : StaysG ps) (hw : Region.wanted o (yielded ops a.tmps) = true) (hjs : js.all (useG md ops o i ps) = true) (hdst : offG ps o i = true)
    (h : ∃ v, (∀ (u : Tmp → Value) w, Below B W0 w → KnownG ps js u w → UponC P (fun x w' => x = v ∧ Below w.heap.size w w') ((execOp (putS a S u).eval o).run P w)) ∧ wpLex P md ops S (GenC B W0 ps) Q rest (i + 1) (a.put o.dst v)) :
    wpLex P md ops S (GenC B W0 ps) Q (o :: rest) i a := by
  obtain ⟨v, hv, hr⟩ := h
  refine wpLex_want v hw (fun d w b hm hc ho => ?_) hr
  have hk := knownG_of hm hc hjs
  rw [off_putS S a b ho]
  refine (hv _ w hc.1 hk).mono fun x w' ⟨k1, k2⟩ => ⟨.inr k1, hc.1.trans (k2.mono (Nat.le_trans hB hc.1.size)), fun p hp hd => ?_⟩
  rw [← off_putS S a b ho]
  exact genC_keep hst hc k2 p hp (offG_of hdst hp).1 (offG_of hdst hp).2 hd
theorem passes_gen {o : Oper} {i : Nat} {a : Act} (hst : StaysG ps) (hdst : offG ps o i = true) : Passes md ops S (GenC B W0 ps) o i a := by
  intro d w b _ hc _
  exact ⟨hc.1, fun p hp hd => genC_keep hst hc (Below.refl _ _) p hp (offG_of hdst hp).1 (offG_of hdst hp).2 hd⟩

def loneG (md : Region.Mode) (ops : Array Oper) (ps : List Gp) (m i : Nat) (t : Tmp) : Bool := (List.range ps.length).all fun k => k == m || match ps[k]? with
  | some q => q.on != some i && (q.slot != some t || (match q.on with | some j => waits md ops j i | none => false))
  | none => true

/-- An operation that makes one of them. -/
theorem wpLex_genMake {Q : Act → Prop} {rest : List Oper} {o : Oper} {i : Nat} {a : Act} (m : Nat) (p : Gp) (t : Tmp) (js : List Nat) (hB : B ≤ W0.heap.size) (hst : StaysG ps) (hp : ps[m]? = some p) (hon : (p.on == some i) = true) (hsl : (p.slot == some t) = true) (hw : Region.wanted o (yielded ops a.tmps) = true) (hjs : js.all (useG md ops o i ps) = true)
    (hdst : (o.dst == some t) = true) (hin : S.contains t = true) (hsz0 : decide (t < a.tmps.size) = true) (hl : loneG md ops ps m i t = true)
    (h : ∀ (u : Tmp → Value) w, Below B W0 w → KnownG ps js u w → UponC P (MakeOk p w) ((execOp (putS a S u).eval o).run P w)) (hr : wpLex P md ops S (GenC B W0 ps) Q rest (i + 1) (a.put o.dst undef)) :
    wpLex P md ops S (GenC B W0 ps) Q (o :: rest) i a := by
  have hd1 : o.dst = some t := by simpa using hdst
  have hs1 : p.slot = some t := by simpa using hsl
  have hsz : t < a.tmps.size := of_decide_eq_true hsz0
  refine wpLex_want undef hw (fun d w b hm hc ho => ?_) hr
  have hk := knownG_of hm hc hjs
  rw [off_putS S a b ho]
  refine (h _ w hc.1 hk).mono fun x w' ⟨k1, k2, k3⟩ => ⟨.inl ⟨_, hd1, by simpa using hin⟩, hc.1.trans (k3.mono (Nat.le_trans hB hc.1.size)), fun q hq hd => ?_⟩
  rw [← off_putS S a b ho]
  obtain ⟨k, hkl, hkq⟩ := List.getElem_of_mem hq
  by_cases hkm : k = m
  · subst hkm
    have : q = p := by
      have h2 := List.getElem?_eq_getElem hkl
      rw [hkq, hp] at h2
      exact (Option.some.inj h2).symm
    subst this
    refine ⟨x, ?_, k1, fun _ => k2⟩
    unfold Gp.here
    rw [hs1]
    dsimp only
    rw [hd1, put_get_same, ho.2.1, if_pos hsz]
  · have h1 := List.all_eq_true.1 hl k (List.mem_range.2 hkl)
    rw [List.getElem?_eq_getElem hkl, hkq] at h1
    simp only [Bool.or_eq_true, beq_iff_eq, Bool.and_eq_true, hkm, false_or] at h1
    rcases h1.2 with h2 | h2
    · exact genC_keep hst hc k3 q hq h1.1 (.inr (by rw [hd1]; intro e; simp [← e] at h2)) hd
    · cases hqo : q.on with
      | none => rw [hqo] at h2; cases h2
      | some j =>
        rw [hqo] at h2
        have h3 := up_waits hm h2
        have h4 : (q.on != some i) = true := h1.1
        have h5 := begun_back h4 hd
        unfold begun at h5
        rw [hqo] at h5
        dsimp only at h5
        rw [h3] at h5
        cases h5

def loneSG (ps : List Gp) (m i : Nat) : Bool := (List.range ps.length).all fun k => k == m || match ps[k]? with | some q => q.on != some i | none => true
def StabAll (T : TypeId) (i m : Nat) (ps : List Gp) : Prop := ∀ k q, ps[k]? = some q → k ≠ m → q.off ≠ some i → Stab T q.F

/-- An operation that stores into one block of type T. -/
theorem wpLex_genStore {Q : Act → Prop} {rest : List Oper} {o : Oper} {i : Nat} {a : Act} (T : TypeId) (m : Nat) (p : Gp) (js : List Nat) (hp : ps[m]? = some p) (hon : (p.on == some i) = true) (hw : Region.wanted o (yielded ops a.tmps) = true) (hjs : js.all (useG md ops o i ps) = true)
    (hdst : o.dst = none) (hsz0 : (match p.slot with | some s => decide (s < a.tmps.size) | none => true) = true) (hl : loneSG ps m i = true) (hsb : StabAll T i m ps)
    (h : ∀ (u : Tmp → Value) w, Below B W0 w → KnownG ps js u w → UponC P (StoreOk T p B W0 w (p.val u)) ((execOp (putS a S u).eval o).run P w)) (hr : wpLex P md ops S (GenC B W0 ps) Q rest (i + 1) a) :
    wpLex P md ops S (GenC B W0 ps) Q (o :: rest) i a := by
  refine wpLex_want undef hw (fun d w b hm hc ho => ?_) (by rw [hdst]; exact hr)
  have hk := knownG_of hm hc hjs
  rw [off_putS S a b ho]
  refine (h _ w hc.1 hk).mono fun x w' ⟨k0, k1, k2, k3, k4, g, cs, k5, k6⟩ => ⟨.inr k0, k3, fun q hq hd => ?_⟩
  rw [← off_putS S a b ho, hdst]
  obtain ⟨k, hkl, hkq⟩ := List.getElem_of_mem hq
  by_cases hkm : k = m
  · subst hkm
    have : q = p := by
      have h2 := List.getElem?_eq_getElem hkl
      rw [hkq, hp] at h2
      exact (Option.some.inj h2).symm
    subst this
    refine ⟨_, ?_, k1, fun _ => k2⟩
    unfold Gp.here Gp.val
    cases hs : q.slot with
    | none => rfl
    | some s =>
      rw [hs] at hsz0
      dsimp only at hsz0 ⊢
      have hs2 : s < b.tmps.size := by rw [ho.2.1]; exact of_decide_eq_true hsz0
      show b.tmps[s]? = some (b.tmps.getD s undef)
      rw [Array.getD_eq_getD_getElem?, Array.getElem?_eq_getElem hs2]
      rfl
  · have h1 := List.all_eq_true.1 hl k (List.mem_range.2 hkl)
    rw [List.getElem?_eq_getElem hkl, hkq] at h1
    simp only [Bool.or_eq_true, beq_iff_eq, hkm, false_or] at h1
    obtain ⟨y, e1, e2, e3⟩ := hc.2 q hq (begun_back h1 hd)
    refine ⟨y, e1, e2, fun ha => ?_⟩
    have hne : q.off ≠ some i := by
      intro e
      unfold alive done1 at ha
      rw [e] at ha
      simp at ha
    exact hsb k q (by rw [List.getElem?_eq_getElem hkl, hkq]) hkm hne _ _ _ _ _ (e3 (alive_back ha)) k5 k6 k4

theorem genC_end {d : Nat → Bool} {a b : Act} {w : World} {n : Nat} (h : GenC B W0 ps d b w) (hd : ∀ i, i < n → d i = true) (ho : Off S a b) :
    ∃ u : Tmp → Value, b = putS a S u ∧ Below B W0 w ∧ ∀ (j : Nat) p, ps[j]? = some p → (match p.on with | some k => decide (k < n) | none => true) = true → p.off = none → p.V (p.val u) ∧ p.F (p.val u) w := by
  refine ⟨_, off_putS S a b ho, h.1, fun j p hp hn hof => ?_⟩
  obtain ⟨v, e1, e2, e3⟩ := h.2 p (List.mem_of_getElem? hp) (by
    unfold begun
    cases hpo : p.on with
    | none => rfl
    | some k => rw [hpo] at hn; exact hd _ (of_decide_eq_true hn))
  rw [Gp.here_val e1]
  exact ⟨e2, e3 (by rw [hof]; rfl)⟩
end

theorem staysG_nil : StaysG [] := fun _ h => by cases h
theorem staysG_cons {p : Gp} {ps : List Gp} (h : ∀ v w w', p.F v w → Below w.heap.size w w' → p.F v w') (hs : StaysG ps) : StaysG (p :: ps) := fun q hq => by
  rcases List.mem_cons.1 hq with rfl | hq
  · exact h
  · exact hs q hq
theorem stab_nil {T : TypeId} {i m : Nat} : StabAll T i m [] := fun k q h => by simp at h
/-- One after the other: 'j' is where the list begins. -/
def StabFrom (T : TypeId) (i m j : Nat) (ps : List Gp) : Prop := ∀ k q, ps[k]? = some q → j + k ≠ m → q.off ≠ some i → Stab T q.F
theorem stabAll_of {T : TypeId} {i m : Nat} {ps : List Gp} (h : StabFrom T i m 0 ps) : StabAll T i m ps := fun k q hq hk => h k q hq (by omega)
theorem stabFrom_nil {T : TypeId} {i m j : Nat} : StabFrom T i m j [] := fun k q h => by simp at h
theorem stabFrom_cons {T : TypeId} {i m j : Nat} {p : Gp} {ps : List Gp} (h : j = m ∨ p.off = some i ∨ Stab T p.F) (hs : StabFrom T i m (j + 1) ps) : StabFrom T i m j (p :: ps) := fun k q hq hk hn => by
  cases k with
  | zero =>
    simp at hq
    subst hq
    rcases h with h | h | h
    · omega
    · exact absurd h hn
    · exact h
  | succ k => exact hs k q (by simpa using hq) (by omega) hn
end Go.Proofs.Ytddbndmbcdeggaa
