/-
  A drawn region in which several operations yield what is known only by a property (new blocks, what a call hands back): its walk in the order of the text. Conditions: what is known of them stays true while what was there stays.
-/
import Derived.Test.YtbaninglcafhhaaMore
namespace Go.Proofs.Ytbaninglcafhhaa
open Go Go.RowKit

/-- Operation 'on' leaves in 'slot' a value of which V is true for good, and F in the world till operation 'off' is done. -/
structure Prom where
  on : Nat
  off : Option Nat
  slot : Tmp
  V : Value → Prop
  F : Value → World → Prop

def alive (x : Option Nat) (d : Nat → Bool) : Bool := match x with | none => true | some j => !d j
def PromC (W0 : World) (ps : List Prom) (d : Nat → Bool) (b : Act) (w : World) : Prop :=
  Below W0.heap.size W0 w ∧ ∀ p ∈ ps, d p.on = true → ∃ v, b.tmps[p.slot]? = some v ∧ p.V v ∧ (alive p.off d = true → p.F v w)
def Stays (ps : List Prom) : Prop := ∀ p ∈ ps, ∀ v w w', p.F v w → Below w.heap.size w w' → p.F v w'
def putS (a : Act) (S : List Tmp) (u : Tmp → Value) : Act := S.foldl (fun a s => a.put (some s) (u s)) a

theorem off_step {s : Tmp} {S : List Tmp} {a b : Act} (h : Off (s :: S) a b) : Off S (a.put (some s) (b.tmps.getD s undef)) b := by
  refine ⟨by rw [h.1, put_defers], by rw [h.2.1, put_size], fun r hr => ?_⟩
  by_cases hrt : s = r
  · subst hrt
    rw [put_get_same, ← h.2.1]
    exact (some_getD _ _).symm
  · have hx : some s ≠ some r := fun e => by injection e with e; exact hrt e
    rw [put_get_ne _ _ _ _ hx]
    exact h.2.2 r (by simp; exact ⟨fun e => hrt e.symm, hr⟩)
theorem off_putS : ∀ (S : List Tmp) (a b : Act), Off S a b → b = putS a S (fun t => b.tmps.getD t undef)
  | [], _, _, h => h.nil
  | _ :: S, _, b, h => off_putS S _ b (off_step h)

section
variable {P : Program} {ops : Array Oper} {md : Region.Mode} {W0 : World} {ps : List Prom} {S : List Tmp}

/-- Operation k waits for operation i; what an operation waits for (by lists: they are reckoned by 'rfl'). -/
def waits (md : Region.Mode) (ops : Array Oper) (k i : Nat) : Bool := match ops.toList[k]? with
  | none => false
  | some o => o.after.toList.any fun e => Region.binds md e && e.on == i
def leans (md : Region.Mode) (o : Oper) (i : Nat) : Bool := o.after.toList.any fun e => Region.binds md e && e.on == i
theorem up_waits {o : Oper} {i : Nat} {d : Nat → Bool} (hm : MayComeUp md ops o i d) {k : Nat} (h : waits md ops k i = true) : d k = false := by
  unfold waits at h
  cases hk : ops.toList[k]? with
  | none => rw [hk] at h; cases h
  | some oj =>
    rw [hk] at h
    obtain ⟨e, he, hb⟩ := List.any_eq_true.1 h
    simp only [Bool.and_eq_true, beq_iff_eq] at hb
    cases hd : d k with
    | false => rfl
    | true =>
      have h1 := hm.2.2 k oj (by simpa using hk) hd e (by simpa using he) hb.1
      rw [hb.2, hm.1] at h1
      cases h1
theorem up_leans {o : Oper} {i : Nat} {d : Nat → Bool} (hm : MayComeUp md ops o i d) {k : Nat} (h : leans md o k = true) : d k = true := by
  obtain ⟨e, he, hb⟩ := List.any_eq_true.1 h
  simp only [Bool.and_eq_true, beq_iff_eq] at hb
  rw [← hb.2]
  exact hm.2.1 e (by simpa using he) hb.1

def useOk (md : Region.Mode) (ops : Array Oper) (o : Oper) (i : Nat) (ps : List Prom) (j : Nat) : Bool := match ps[j]? with
  | none => false
  | some p => leans md o p.on && (match p.off with | none => true | some k => k == i || waits md ops k i)
/-- What is known of those that are used. -/
def Known (ps : List Prom) (js : List Nat) (u : Tmp → Value) (w : World) : Prop := ∀ j ∈ js, ∀ p, ps[j]? = some p → p.V (u p.slot) ∧ p.F (u p.slot) w

theorem promC_looks (hS : ps.all (fun p => S.contains p.slot) = true) : Looks S (PromC W0 ps) := by
  intro d a w r v hr h
  refine ⟨h.1, fun p hp hd => ?_⟩
  obtain ⟨x, h1, h2⟩ := h.2 p hp hd
  refine ⟨x, ?_, h2⟩
  have := List.all_eq_true.1 hS p hp
  rw [put_get_ne _ _ _ _ (fun e => by injection e with e; subst e; simp at this; exact hr this)]
  exact h1
theorem promC_start (a : Act) : PromC W0 ps (fun _ => false) a W0.drew := ⟨(Below.refl _ _).drew, fun _ _ h => by cases h⟩
theorem known_of {o : Oper} {i : Nat} {d : Nat → Bool} {b : Act} {w : World} {js : List Nat} (hm : MayComeUp md ops o i d) (hc : PromC W0 ps d b w) (hjs : js.all (useOk md ops o i ps) = true) :
    Known ps js (fun t => b.tmps.getD t undef) w := by
  intro j hj p hp
  have h1 := List.all_eq_true.1 hjs j hj
  unfold useOk at h1
  rw [hp] at h1
  simp only [Bool.and_eq_true] at h1
  obtain ⟨v, e1, e2, e3⟩ := hc.2 p (List.mem_of_getElem? hp) (up_leans hm h1.1)
  have e4 : b.tmps.getD p.slot undef = v := by
    rw [Array.getD_eq_getD_getElem?, e1]; rfl
  dsimp only
  rw [e4]
  refine ⟨e2, e3 ?_⟩
  have h2 := h1.2
  unfold alive
  cases hof : p.off with
  | none => rfl
  | some k =>
    rw [hof] at h2
    simp only [Bool.or_eq_true, beq_iff_eq] at h2
    rcases h2 with rfl | h2
    · simp [hm.1]
    · simp [up_waits hm h2]
theorem alive_back {x : Option Nat} {d : Nat → Bool} {i : Nat} (h : alive x (done1 d i) = true) : alive x d = true := by
  unfold alive done1 at *
  cases x with
  | none => rfl
  | some k => simp at h ⊢; exact h.2
theorem promC_keep {d : Nat → Bool} {i : Nat} {b : Act} {w w' : World} {x : Option Tmp} {v : Value} (hst : Stays ps) (h : PromC W0 ps d b w) (hb : Below w.heap.size w w') (p : Prom) (hp : p ∈ ps) (h1 : (p.on != i) = true) (hx : x ≠ some p.slot)
    (hd : done1 d i p.on = true) : ∃ v', (b.put x v).tmps[p.slot]? = some v' ∧ p.V v' ∧ (alive p.off (done1 d i) = true → p.F v' w') := by
  have hd' : d p.on = true := by
    unfold done1 at hd
    simp only [Bool.or_eq_true, beq_iff_eq] at hd
    rcases hd with hd | hd
    · simp [hd] at h1
    · exact hd
  obtain ⟨y, e1, e2, e3⟩ := h.2 p hp hd'
  exact ⟨y, by rw [put_get_ne _ _ _ _ hx]; exact e1, e2, fun ha => hst p hp _ _ _ (e3 (alive_back ha)) hb⟩

def didOk (md : Region.Mode) (o : Oper) (ps : List Prom) (j : Nat) : Bool := match ps[j]? with
  | none => false
  | some p => leans md o p.on
def KnownV (ps : List Prom) (js : List Nat) (u : Tmp → Value) : Prop := ∀ j ∈ js, ∀ p, ps[j]? = some p → p.V (u p.slot)
theorem knownV_of {o : Oper} {i : Nat} {d : Nat → Bool} {b : Act} {w : World} {js : List Nat} (hm : MayComeUp md ops o i d) (hc : PromC W0 ps d b w) (hjs : js.all (didOk md o ps) = true) :
    KnownV ps js (fun t => b.tmps.getD t undef) := by
  intro j hj p hp
  have h1 := List.all_eq_true.1 hjs j hj
  unfold didOk at h1
  rw [hp] at h1
  obtain ⟨v, e1, e2, _⟩ := hc.2 p (List.mem_of_getElem? hp) (up_leans hm h1)
  have e4 : b.tmps.getD p.slot undef = v := by
    rw [Array.getD_eq_getD_getElem?, e1]; rfl
  show p.V (b.tmps.getD p.slot undef)
  rw [e4]
  exact e2

/-- An operation that yields one value, whatever the others are. -/
theorem wpLex_promUseV {Q : Act → Prop} {rest : List Oper} {o : Oper} {i : Nat} {a : Act} (js : List Nat) (hst : Stays ps) (hw : Region.wanted o (yielded ops a.tmps) = true) (hjs : js.all (didOk md o ps) = true)
    (hdst : ps.all (fun p => p.on != i && o.dst != some p.slot) = true)
    (h : ∃ v, (∀ (u : Tmp → Value) w, Below W0.heap.size W0 w → KnownV ps js u → UponC P (fun x w' => x = v ∧ Below w.heap.size w w') ((execOp (putS a S u).eval o).run P w)) ∧ wpLex P md ops S (PromC W0 ps) Q rest (i + 1) (a.put o.dst v)) :
    wpLex P md ops S (PromC W0 ps) Q (o :: rest) i a := by
  obtain ⟨v, hv, hr⟩ := h
  refine wpLex_want v hw (fun d w b hm hc ho => ?_) hr
  have hk := knownV_of hm hc hjs
  rw [off_putS S a b ho]
  refine (hv _ w hc.1 hk).mono fun x w' ⟨k1, k2⟩ => ⟨.inr k1, hc.1.trans (k2.mono hc.1.size), fun p hp hd => ?_⟩
  have h1 := List.all_eq_true.1 hdst p hp
  simp only [Bool.and_eq_true] at h1
  rw [← off_putS S a b ho]
  exact promC_keep hst hc k2 p hp h1.1 (by simpa using h1.2) hd
theorem wpLex_promUse {Q : Act → Prop} {rest : List Oper} {o : Oper} {i : Nat} {a : Act} (js : List Nat) (hst : Stays ps) (hw : Region.wanted o (yielded ops a.tmps) = true) (hjs : js.all (useOk md ops o i ps) = true)
    (hdst : ps.all (fun p => p.on != i && o.dst != some p.slot) = true)
    (h : ∃ v, (∀ (u : Tmp → Value) w, Below W0.heap.size W0 w → Known ps js u w → UponC P (fun x w' => x = v ∧ Below w.heap.size w w') ((execOp (putS a S u).eval o).run P w)) ∧ wpLex P md ops S (PromC W0 ps) Q rest (i + 1) (a.put o.dst v)) :
    wpLex P md ops S (PromC W0 ps) Q (o :: rest) i a := by
  obtain ⟨v, hv, hr⟩ := h
  refine wpLex_want v hw (fun d w b hm hc ho => ?_) hr
  have hk := known_of hm hc hjs
  rw [off_putS S a b ho]
  refine (hv _ w hc.1 hk).mono fun x w' ⟨k1, k2⟩ => ⟨.inr k1, hc.1.trans (k2.mono hc.1.size), fun p hp hd => ?_⟩
  have h1 := List.all_eq_true.1 hdst p hp
  simp only [Bool.and_eq_true] at h1
  rw [← off_putS S a b ho]
  exact promC_keep hst hc k2 p hp h1.1 (by simpa using h1.2) hd

theorem passes_prom {o : Oper} {i : Nat} {a : Act} (hst : Stays ps) (hdst : ps.all (fun p => p.on != i && o.dst != some p.slot) = true) : Passes md ops S (PromC W0 ps) o i a := by
  intro d w b _ hc _
  refine ⟨hc.1, fun p hp hd => ?_⟩
  have h1 := List.all_eq_true.1 hdst p hp
  simp only [Bool.and_eq_true] at h1
  exact promC_keep hst hc (Below.refl _ _) p hp h1.1 (by simpa using h1.2) hd

def lone (md : Region.Mode) (ops : Array Oper) (ps : List Prom) (m i : Nat) (t : Tmp) : Bool := (List.range ps.length).all fun k => k == m || match ps[k]? with | some q => q.on != i && (q.slot != t || waits md ops q.on i) | none => true

/-- An operation that makes one of them. -/
theorem wpLex_promMake {Q : Act → Prop} {rest : List Oper} {o : Oper} {i : Nat} {a : Act} (m : Nat) (p : Prom) (js : List Nat) (hst : Stays ps) (hp : ps[m]? = some p) (hon : (p.on == i) = true) (hw : Region.wanted o (yielded ops a.tmps) = true) (hjs : js.all (useOk md ops o i ps) = true)
    (hdst : (o.dst == some p.slot) = true) (hin : S.contains p.slot = true) (hsz0 : decide (p.slot < a.tmps.size) = true) (hl : lone md ops ps m i p.slot = true)
    (h : ∀ (u : Tmp → Value) w, Below W0.heap.size W0 w → Known ps js u w → UponC P (fun x w' => p.V x ∧ p.F x w' ∧ Below w.heap.size w w') ((execOp (putS a S u).eval o).run P w)) (hr : wpLex P md ops S (PromC W0 ps) Q rest (i + 1) (a.put o.dst undef)) :
    wpLex P md ops S (PromC W0 ps) Q (o :: rest) i a := by
  have hd1 : o.dst = some p.slot := by simpa using hdst
  have hsz : p.slot < a.tmps.size := of_decide_eq_true hsz0
  refine wpLex_want undef hw (fun d w b hm hc ho => ?_) hr
  have hk := known_of hm hc hjs
  rw [off_putS S a b ho]
  refine (h _ w hc.1 hk).mono fun x w' ⟨k1, k2, k3⟩ => ⟨.inl ⟨_, hd1, by simpa using hin⟩, hc.1.trans (k3.mono hc.1.size), fun q hq hd => ?_⟩
  rw [← off_putS S a b ho]
  obtain ⟨k, hkl, hkq⟩ := List.getElem_of_mem hq
  by_cases hkm : k = m
  · subst hkm
    have : q = p := by
      have h2 := List.getElem?_eq_getElem hkl
      rw [hkq, hp] at h2
      exact (Option.some.inj h2).symm
    subst this
    exact ⟨x, by rw [hd1, put_get_same, ho.2.1, if_pos hsz], k1, fun _ => k2⟩
  · have h1 := List.all_eq_true.1 hl k (List.mem_range.2 hkl)
    rw [List.getElem?_eq_getElem hkl, hkq] at h1
    simp only [Bool.or_eq_true, beq_iff_eq, Bool.and_eq_true, hkm, false_or] at h1
    rcases h1.2 with h2 | h2
    · exact promC_keep hst hc k3 q hq h1.1 (by rw [hd1]; intro e; injection e with e; simp [e] at h2) hd
    · have h3 := up_waits hm h2
      unfold done1 at hd
      rw [h3, show (q.on == i) = false by simpa using h1.1] at hd
      cases hd

def loneS (ps : List Prom) (m i : Nat) : Bool := (List.range ps.length).all fun k => k == m || match ps[k]? with | some q => q.on != i && q.off == some i | none => true

/-- An operation that stores: from it on that one alone is known. -/
theorem wpLex_promStore {Q : Act → Prop} {rest : List Oper} {o : Oper} {i : Nat} {a : Act} (m : Nat) (p : Prom) (js : List Nat) (hp : ps[m]? = some p) (hon : (p.on == i) = true) (hw : Region.wanted o (yielded ops a.tmps) = true) (hjs : js.all (useOk md ops o i ps) = true)
    (hdst : o.dst = none) (hsz0 : decide (p.slot < a.tmps.size) = true) (hl : loneS ps m i = true)
    (h : ∀ (u : Tmp → Value) w, Below W0.heap.size W0 w → Known ps js u w → UponC P (fun x w' => x = undef ∧ p.V (u p.slot) ∧ p.F (u p.slot) w' ∧ Below W0.heap.size W0 w') ((execOp (putS a S u).eval o).run P w)) (hr : wpLex P md ops S (PromC W0 ps) Q rest (i + 1) a) :
    wpLex P md ops S (PromC W0 ps) Q (o :: rest) i a := by
  have hsz : p.slot < a.tmps.size := of_decide_eq_true hsz0
  refine wpLex_want undef hw (fun d w b hm hc ho => ?_) (by rw [hdst]; exact hr)
  have hk := known_of hm hc hjs
  rw [off_putS S a b ho]
  refine (h _ w hc.1 hk).mono fun x w' ⟨k0, k1, k2, k3⟩ => ⟨.inr k0, k3, fun q hq hd => ?_⟩
  rw [← off_putS S a b ho, hdst]
  obtain ⟨k, hkl, hkq⟩ := List.getElem_of_mem hq
  by_cases hkm : k = m
  · subst hkm
    have : q = p := by
      have h2 := List.getElem?_eq_getElem hkl
      rw [hkq, hp] at h2
      exact (Option.some.inj h2).symm
    subst this
    refine ⟨_, ?_, k1, fun _ => k2⟩
    have hs : q.slot < b.tmps.size := by rw [ho.2.1]; exact hsz
    show b.tmps[q.slot]? = some (b.tmps.getD q.slot undef)
    rw [Array.getD_eq_getD_getElem?, Array.getElem?_eq_getElem hs]
    rfl
  · have h1 := List.all_eq_true.1 hl k (List.mem_range.2 hkl)
    rw [List.getElem?_eq_getElem hkl, hkq] at h1
    simp only [Bool.or_eq_true, beq_iff_eq, Bool.and_eq_true, hkm, false_or] at h1
    have hne : (q.on == i) = false := by simpa using h1.1
    have hd' : d q.on = true := by
      unfold done1 at hd
      rw [hne] at hd
      simpa using hd
    obtain ⟨y, e1, e2, _⟩ := hc.2 q hq hd'
    refine ⟨y, e1, e2, fun ha => ?_⟩
    unfold alive done1 at ha
    rw [h1.2] at ha
    simp at ha

/-- What is known in the end. -/
theorem promC_end {d : Nat → Bool} {a b : Act} {w : World} {n : Nat} (h : PromC W0 ps d b w) (hd : ∀ i, i < n → d i = true) (ho : Off S a b) :
    ∃ u : Tmp → Value, b = putS a S u ∧ Below W0.heap.size W0 w ∧ ∀ (j : Nat) p, ps[j]? = some p → p.on < n → p.off = none → p.V (u p.slot) ∧ p.F (u p.slot) w := by
  refine ⟨_, off_putS S a b ho, h.1, fun j p hp hn hof => ?_⟩
  obtain ⟨v, e1, e2, e3⟩ := h.2 p (List.mem_of_getElem? hp) (hd _ hn)
  have e4 : b.tmps.getD p.slot undef = v := by
    rw [Array.getD_eq_getD_getElem?, e1]; rfl
  show p.V (b.tmps.getD p.slot undef) ∧ p.F (b.tmps.getD p.slot undef) w
  rw [e4]
  exact ⟨e2, e3 (by rw [hof]; rfl)⟩
end
end Go.Proofs.Ytbaninglcafhhaa
