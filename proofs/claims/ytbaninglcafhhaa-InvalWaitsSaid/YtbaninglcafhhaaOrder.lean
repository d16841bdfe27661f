/-
  A region that draws its order, walked once in the order of the text, where operations may change the world: a class of worlds that knows which operations are done. Conditions: each operation, whenever it may come up, yields the one value that the walk in the order of the text names.
-/
import Derived.Still
import Derived.StillTail
import Derived.Tactics
import Derived.Tactics2
import Derived.KernelRfl
namespace Go.Proofs.Ytbaninglcafhhaa
open Go

/-- What is asked once an operation has yielded something: of the value, and the world. -/
def UponC (P : Program) (K : Value → World → Prop) : Result Next → Prop
  | .ok (.value u) w' => K u w'
  | .ok .skip w' => K undef w'
  | .ok (.enter f args) w' => Calls P f args w' (fun e w'' => ∃ u, e = .returned u ∧ K u w'')
  | _ => False
attribute [go_sem] UponC

theorem UponC.mono {P : Program} {K K' : Value → World → Prop} {r : Result Next} (h : UponC P K r) (hk : ∀ u w, K u w → K' u w) : UponC P K' r := by
  cases r with
  | ok n w' =>
    cases n <;> simp only [UponC] at h ⊢
    · exact hk _ _ h
    · exact hk _ _ h
    · exact h.mono fun e w'' ⟨u, he, hu⟩ => ⟨u, he, hk _ _ hu⟩
  | halt x w' => simp only [UponC] at h

theorem put_lit (l : List Value) (ds : List Deferred) (n : Nat) (v : Value) : (Act.mk l.toArray ds).put (some n) v = Act.mk (l.set n v).toArray ds := by simp [Act.put]
theorem put_lit_none (a : Act) (v : Value) : a.put none v = a := rfl

/-- The two frames are the same but for the slots of S. -/
def Off (S : List Tmp) (a b : Act) : Prop := b.defers = a.defers ∧ b.tmps.size = a.tmps.size ∧ ∀ t, t ∉ S → b.tmps[t]? = a.tmps[t]?

theorem Off.refl (S : List Tmp) (a : Act) : Off S a a := ⟨rfl, rfl, fun _ _ => rfl⟩
theorem put_size (a : Act) (x : Option Tmp) (v : Value) : (a.put x v).tmps.size = a.tmps.size := by cases x <;> simp [Act.put]
theorem put_defers (a : Act) (x : Option Tmp) (v : Value) : (a.put x v).defers = a.defers := by cases x <;> simp [Act.put]
theorem put_get_ne (a : Act) (x : Option Tmp) (v : Value) (t : Tmp) (h : x ≠ some t) : (a.put x v).tmps[t]? = a.tmps[t]? := by
  cases x with
  | none => rfl
  | some d =>
    have hne : d ≠ t := fun e => h (e ▸ rfl)
    simp [Act.put, hne]
theorem put_get_same (a : Act) (t : Tmp) (v : Value) : (a.put (some t) v).tmps[t]? = if t < a.tmps.size then some v else none := by
  simp [Act.put, Array.getElem?_setIfInBounds]

theorem some_getD (xs : Array Value) (t : Nat) : (if t < xs.size then some (xs.getD t undef) else none) = xs[t]? := by
  by_cases h : t < xs.size <;> simp [h]
theorem Off.put {S : List Tmp} {a b : Act} (h : Off S a b) (x : Option Tmp) (v : Value) : Off S (a.put x v) (b.put x v) := by
  refine ⟨by rw [put_defers, put_defers]; exact h.1, by rw [put_size, put_size]; exact h.2.1, fun t ht => ?_⟩
  by_cases hx : x = some t
  · subst hx
    rw [put_get_same, put_get_same, h.2.1]
  · rw [put_get_ne _ _ _ _ hx, put_get_ne _ _ _ _ hx]
    exact h.2.2 t ht
theorem Off.put_in {S : List Tmp} {a b : Act} (h : Off S a b) {t : Tmp} (ht : t ∈ S) (v u : Value) : Off S (a.put (some t) v) (b.put (some t) u) := by
  refine ⟨by rw [put_defers, put_defers]; exact h.1, by rw [put_size, put_size]; exact h.2.1, fun r hr => ?_⟩
  have hx : some t ≠ some r := fun e => by injection e with e; subst e; exact hr ht
  rw [put_get_ne _ _ _ _ hx, put_get_ne _ _ _ _ hx]
  exact h.2.2 r hr
theorem Off.left_in {S : List Tmp} {a b : Act} {t : Tmp} {v : Value} (h : Off S (a.put (some t) v) b) (ht : t ∈ S) : Off S a b := by
  refine ⟨by rw [h.1, put_defers], by rw [h.2.1, put_size], fun r hr => ?_⟩
  have hx : some t ≠ some r := fun e => by injection e with e; subst e; exact hr ht
  rw [h.2.2 r hr, put_get_ne _ _ _ _ hx]
theorem put_none (a : Act) (v : Value) : a.put none v = a := rfl
/-- Put back what was there. -/
theorem Off.left_put {S : List Tmp} {a b : Act} {t : Tmp} {v : Value} (h : Off S (a.put (some t) v) b) : Off S a (b.put (some t) (a.tmps.getD t undef)) := by
  refine ⟨by rw [put_defers, h.1, put_defers], by rw [put_size, h.2.1, put_size], fun r hr => ?_⟩
  by_cases hrt : t = r
  · subst hrt
    rw [put_get_same, h.2.1, put_size]
    exact some_getD _ _
  · have hx : some t ≠ some r := fun e => by injection e with e; exact hrt e
    rw [put_get_ne _ _ _ _ hx, h.2.2 r hr, put_get_ne _ _ _ _ hx]
theorem Off.cons {t : Tmp} {S : List Tmp} {a b : Act} (h : Off (t :: S) a b) : ∃ u, Off S (a.put (some t) u) b := by
  refine ⟨b.tmps.getD t undef, by rw [h.1, put_defers], by rw [h.2.1, put_size], fun r hr => ?_⟩
  by_cases hrt : t = r
  · subst hrt
    rw [put_get_same, ← h.2.1]
    exact (some_getD _ _).symm
  · have hx : some t ≠ some r := fun e => by injection e with e; exact hrt e
    rw [put_get_ne _ _ _ _ hx]
    exact h.2.2 r (by simp; exact ⟨fun e => hrt e.symm, hr⟩)
theorem Off.nil {a b : Act} (h : Off [] a b) : b = a := by
  obtain ⟨h1, h2, h3⟩ := h
  cases a; cases b
  simp only [Act.mk.injEq] at *
  exact ⟨Array.ext_getElem? fun i => h3 i (by simp), h1⟩
theorem Off.one {t : Tmp} {a b : Act} (h : Off [t] a b) : ∃ u, b = a.put (some t) u := let ⟨u, h⟩ := h.cons; ⟨u, h.nil⟩
theorem Off.two {t s : Tmp} {a b : Act} (h : Off [t, s] a b) : ∃ u v, b = (a.put (some t) u).put (some s) v := let ⟨u, h⟩ := h.cons; let ⟨v, h⟩ := h.cons; ⟨u, v, h.nil⟩

section
variable {P : Program} {ops : Array Oper} {md : Region.Mode} {S : List Tmp} {C : (Nat → Bool) → Act → World → Prop}

/-- One more is done. -/
def done1 (d : Nat → Bool) (i : Nat) : Nat → Bool := fun j => j == i || d j

/-- Operation 'o', number i, may come up when those of 'd' are done. -/
def MayComeUp (md : Region.Mode) (ops : Array Oper) (o : Oper) (i : Nat) (d : Nat → Bool) : Prop :=
  d i = false ∧ (∀ e ∈ o.after, Region.binds md e = true → d e.on = true) ∧
  ∀ j oj, ops[j]? = some oj → d j = true → ∀ e ∈ oj.after, Region.binds md e = true → d e.on = true

theorem MayComeUp.not_yet {o : Oper} {i : Nat} {d : Nat → Bool} (hm : MayComeUp md ops o i d) (j : Nat) (h : Region.waitsFor md ops j i = true) : d j = false := by
  obtain ⟨oj, hj, e, he, hb, hi⟩ := Region.waitsFor_spec h
  cases hd : d j with
  | false => rfl
  | true =>
    have h1 := hm.2.2 j oj hj hd e he hb
    rw [hi, hm.1] at h1
    cases h1

/-- What the operation waits for is done. -/
theorem MayComeUp.did {o : Oper} {i : Nat} {d : Nat → Bool} (hm : MayComeUp md ops o i d) (j : Nat) (h : (o.after.any fun e => Region.binds md e && e.on == j) = true) : d j = true := by
  obtain ⟨e, he, hb⟩ := Array.any_eq_true'.1 h
  simp only [Bool.and_eq_true, beq_iff_eq] at hb
  rw [← hb.2]
  exact hm.2.1 e he hb.1

/-- In this frame operation number i yields v (where its slot is of S: whatever it likes) whenever it may come up. -/
def ComesTo (P : Program) (md : Region.Mode) (ops : Array Oper) (S : List Tmp) (C : (Nat → Bool) → Act → World → Prop) (o : Oper) (i : Nat) (a : Act) (v : Value) : Prop :=
  ∀ d w b, MayComeUp md ops o i d → C d b w → Off S a b → UponC P (fun u w' => ((∃ t, o.dst = some t ∧ t ∈ S) ∨ u = v) ∧ C (done1 d i) (b.put o.dst u) w') ((execOp b.eval o).run P w)

/-- An operation whose guard says no. -/
def Passes (md : Region.Mode) (ops : Array Oper) (S : List Tmp) (C : (Nat → Bool) → Act → World → Prop) (o : Oper) (i : Nat) (a : Act) : Prop :=
  ∀ d w b, MayComeUp md ops o i d → C d b w → Off S a b → C (done1 d i) (b.put o.dst undef) w

/-- The class looks at the slots of S alone. -/
def Looks (S : List Tmp) (C : (Nat → Bool) → Act → World → Prop) : Prop := ∀ d a w t v, t ∉ S → C d a w → C d (a.put (some t) v) w

/-- No guard looks at a slot of S. -/
def guardsOff (S : List Tmp) (ops : Array Oper) : Bool := ops.all fun o => match o.guard with
  | none => true
  | some (j, _) => match (ops[j]?).bind (·.dst) with
    | none => true
    | some t => !S.contains t

/-- The walk in the order of the text. -/
def wpLex (P : Program) (md : Region.Mode) (ops : Array Oper) (S : List Tmp) (C : (Nat → Bool) → Act → World → Prop) (Q : Act → Prop) : List Oper → Nat → Act → Prop
  | [], _, a => Q a
  | o :: rest, i, a => if Region.wanted o (yielded ops a.tmps) then ∃ v, ComesTo P md ops S C o i a v ∧ wpLex P md ops S C Q rest (i + 1) (a.put o.dst v)
    else Passes md ops S C o i a ∧ wpLex P md ops S C Q rest (i + 1) (a.put o.dst undef)

theorem wpLex_nil {Q : Act → Prop} {i : Nat} {a : Act} (h : Q a) : wpLex P md ops S C Q [] i a := h
theorem wpLex_want {Q : Act → Prop} {o : Oper} {rest : List Oper} {i : Nat} {a : Act} (v : Value) (hw : Region.wanted o (yielded ops a.tmps) = true)
    (h : ComesTo P md ops S C o i a v) (hr : wpLex P md ops S C Q rest (i + 1) (a.put o.dst v)) : wpLex P md ops S C Q (o :: rest) i a := by
  unfold wpLex; rw [if_pos hw]; exact ⟨v, h, hr⟩
theorem wpLex_run {Q : Act → Prop} {o : Oper} {rest : List Oper} {i : Nat} {a : Act} (hw : Region.wanted o (yielded ops a.tmps) = true)
    (h : ∃ v, ComesTo P md ops S C o i a v ∧ wpLex P md ops S C Q rest (i + 1) (a.put o.dst v)) : wpLex P md ops S C Q (o :: rest) i a := by
  unfold wpLex; rw [if_pos hw]; exact h
theorem wpLex_pass {Q : Act → Prop} {o : Oper} {rest : List Oper} {i : Nat} {a : Act} (hw : Region.wanted o (yielded ops a.tmps) = false)
    (h : Passes md ops S C o i a) (hr : wpLex P md ops S C Q rest (i + 1) (a.put o.dst undef)) : wpLex P md ops S C Q (o :: rest) i a := by
  unfold wpLex; rw [if_neg (by rw [hw]; decide)]; exact ⟨h, hr⟩
/-- A guard that is not decided: the slot holds the value or nothing. -/
theorem wpLex_guard {Q : Act → Prop} {o : Oper} {rest : List Oper} {i : Nat} {a : Act} (g : Bool) (v : Value) (hg : Region.wanted o (yielded ops a.tmps) = g)
    (h1 : g = true → ComesTo P md ops S C o i a v) (h2 : g = false → Passes md ops S C o i a) (hr : wpLex P md ops S C Q rest (i + 1) (a.put o.dst (if g then v else undef))) : wpLex P md ops S C Q (o :: rest) i a := by
  cases g with
  | true => exact wpLex_want v hg (h1 rfl) hr
  | false => exact wpLex_pass hg (h2 rfl) hr

theorem wpLex_mono {Q Q' : Act → Prop} (hq : ∀ a, Q a → Q' a) : ∀ (l : List Oper) (i : Nat) (a : Act), wpLex P md ops S C Q l i a → wpLex P md ops S C Q' l i a
  | [], _, _, h => hq _ h
  | o :: l, i, a, h => by
    unfold wpLex at h ⊢
    split
    · rename_i hw
      rw [if_pos hw] at h
      obtain ⟨v, h1, h2⟩ := h
      exact ⟨v, h1, wpLex_mono hq l _ _ h2⟩
    · rename_i hw
      rw [if_neg hw] at h
      exact ⟨h.1, wpLex_mono hq l _ _ h.2⟩

def lexOp (P : Program) (md : Region.Mode) (ops : Array Oper) (S : List Tmp) (C : (Nat → Bool) → Act → World → Prop) (i : Nat) (K : Act → Prop) (a : Act) : Prop :=
  match ops[i]? with
  | none => K a
  | some o => if Region.wanted o (yielded ops a.tmps) then ∃ v, ComesTo P md ops S C o i a v ∧ K (a.put o.dst v) else Passes md ops S C o i a ∧ K (a.put o.dst undef)

theorem lexOp_mono {i : Nat} {a : Act} {K K' : Act → Prop} (h : ∀ a, K a → K' a) (hh : lexOp P md ops S C i K a) : lexOp P md ops S C i K' a := by
  unfold lexOp at *
  split
  · exact h _ (by simpa [*] using hh)
  · rename_i o ho
    simp only [ho] at hh
    split
    · rename_i hw; simp only [hw, if_true] at hh
      obtain ⟨v, h1, h2⟩ := hh
      exact ⟨v, h1, h _ h2⟩
    · rename_i hw; simp only [hw] at hh; exact ⟨hh.1, h _ hh.2⟩

def wpAnyL (P : Program) (md : Region.Mode) (ops : Array Oper) (S : List Tmp) (C : (Nat → Bool) → Act → World → Prop) (Q : Act → Prop) : Nat → Array Bool → Act → Prop
  | 0, listed, a => Region.ready md ops listed = [] ∧ Q a
  | fuel + 1, listed, a =>
    (Region.ready md ops listed = [] → Q a) ∧
    ∀ i ∈ Region.ready md ops listed, lexOp P md ops S C i (wpAnyL P md ops S C Q fuel (listed.setIfInBounds i true)) a

/-- The state of a row of marks. -/
def marksOf (l : Array Bool) : Nat → Bool := fun j => l.getD j false

theorem marksOf_set {l : Array Bool} {i : Nat} (h : i < l.size) : marksOf (l.setIfInBounds i true) = done1 (marksOf l) i := by
  funext j
  unfold marksOf done1
  by_cases hj : j = i
  · subst hj; simp [h]
  · rw [getD_set_ne false (Ne.symm hj)]; simp [hj]

structure Sound (md : Region.Mode) (ops : Array Oper) (l : Array Bool) : Prop where
  size : l.size = ops.size
  closed : ∀ j oj, ops[j]? = some oj → marksOf l j = true → ∀ e ∈ oj.after, Region.binds md e = true → marksOf l e.on = true

theorem Sound.set {l : Array Bool} {i : Nat} (s : Sound md ops l) (hi : i ∈ Region.ready md ops l) : Sound md ops (l.setIfInBounds i true) := by
  obtain ⟨hun, oi, hoi, hall⟩ := mem_ready.1 hi
  have hlt : i < l.size := by rw [s.size]; exact (Array.getElem?_eq_some_iff.1 hoi).1
  refine ⟨by simp [s.size], ?_⟩
  rw [marksOf_set hlt]
  intro j oj hj hd e he hb
  unfold done1 at hd ⊢
  by_cases hji : j = i
  · subst hji
    have : oj = oi := Option.some.inj (hj.symm.trans hoi)
    subst this
    have := hall e he hb
    simp only [marksOf, this, Bool.or_true]
  · have h1 : marksOf l j = true := by simpa [hji] using hd
    simp only [s.closed j oj hj h1 e he hb, Bool.or_true]

theorem Sound.up {l : Array Bool} {i : Nat} {o : Oper} (s : Sound md ops l) (hi : i ∈ Region.ready md ops l) (ho : ops[i]? = some o) : MayComeUp md ops o i (marksOf l) := by
  obtain ⟨hun, oi, hoi, hall⟩ := mem_ready.1 hi
  have : o = oi := Option.some.inj (ho.symm.trans hoi)
  subst this
  have hlt : i < l.size := by rw [s.size]; exact (Array.getElem?_eq_some_iff.1 hoi).1
  refine ⟨?_, hall, s.closed⟩
  unfold marksOf
  simp [hlt] at hun ⊢
  exact hun

theorem wp_of_comes {o : Oper} {a : Act} {w : World} {K : Act → World → Prop} {Q' : Exit → Act → World → Prop} {R : Value → World → Prop}
    (h : UponC P R ((execOp a.eval o).run P w)) (hk : ∀ u w', R u w' → K (a.put o.dst u) w') : o.wp P a w K Q' := by
  unfold Oper.wp
  generalize (execOp a.eval o).run P w = r at *
  cases r with
  | ok n w' =>
    cases n <;> simp only [UponC] at h <;> simp only [Oper.upon]
    case value u => exact hk _ _ h
    case skip => exact hk _ _ h
    case enter f args => exact h.mono fun e w'' ⟨u, he, hu⟩ => by subst he; exact hk _ _ hu
  | halt x w' => simp only [UponC] at h

theorem wanted_off {a b : Act} (hg : guardsOff S ops = true) (h : Off S a b) {i : Nat} {o : Oper} (ho : ops[i]? = some o) : Region.wanted o (yielded ops b.tmps) = Region.wanted o (yielded ops a.tmps) := by
  unfold Region.wanted
  have h1 := Array.all_eq_true.1 hg i (Array.getElem?_eq_some_iff.1 ho).1
  have h2 : ops[i]'(Array.getElem?_eq_some_iff.1 ho).1 = o := (Array.getElem?_eq_some_iff.1 ho).2
  rw [h2] at h1
  cases hgd : o.guard with
  | none => rfl
  | some g =>
    obtain ⟨j, want⟩ := g
    simp only [hgd] at h1 ⊢
    cases hb : (ops[j]?).bind (·.dst) with
    | none =>
      congr 1
      unfold yielded
      cases hj : ops[j]? with
      | none => simp
      | some oj =>
        simp only [hj, Option.bind_some] at hb
        simp [hb]
    | some t =>
      simp only [hb] at h1
      have ht : t ∉ S := by simpa using h1
      congr 1
      unfold yielded
      cases hj : ops[j]? with
      | none => simp
      | some oj =>
        simp only [hj, Option.bind_some] at hb
        simp only [hb, Option.bind_some, h.2.2 t ht]

theorem wpAny_of_lex {Q : Act → Prop} {Q' : Exit → Act → World → Prop} (hg : guardsOff S ops = true)
    (hQ : ∀ (l : Array Bool) a b w, Sound md ops l → Region.ready md ops l = [] → C (marksOf l) b w → Off S a b → Q a → Q' .normal b w) :
    ∀ (fuel : Nat) (listed : Array Bool) (a b : Act) (w : World), Sound md ops listed → C (marksOf listed) b w → Off S a b →
    wpAnyL P md ops S C Q fuel listed a → wpAny P md ops Q' fuel listed b w
  | 0, _, _, _, _, hs, hw, ho, h => ⟨h.1, hQ _ _ _ _ hs h.1 hw ho h.2⟩
  | fuel + 1, listed, a, b, w, hs, hw, hoff, h => ⟨fun h0 => hQ _ _ _ _ hs h0 hw hoff (h.1 h0), fun i hi => by
      obtain ⟨_, o, ho, _⟩ := mem_ready.1 hi
      have hlt : i < listed.size := by rw [hs.size]; exact (Array.getElem?_eq_some_iff.1 ho).1
      have h2 := h.2 i hi
      unfold lexOp at h2
      unfold wpOp
      simp only [ho] at h2 ⊢
      rw [wanted_off hg hoff ho]
      split
      · rename_i hwa
        simp only [hwa, if_true] at h2
        obtain ⟨v, h3, h4⟩ := h2
        refine .inl (wp_of_comes (h3 _ _ _ (hs.up hi ho) hw hoff) fun u w' hu => ?_)
        refine wpAny_of_lex hg hQ fuel _ (a.put o.dst v) _ _ (hs.set hi) (by rw [marksOf_set hlt]; exact hu.2) ?_ h4
        rcases hu.1 with ⟨t, ht, hin⟩ | rfl
        · rw [ht]; exact hoff.put_in hin _ _
        · exact hoff.put _ _
      · rename_i hwa
        simp only [hwa] at h2
        exact wpAny_of_lex hg hQ fuel _ _ _ _ (hs.set hi) (by rw [marksOf_set hlt]; exact h2.1 _ _ _ (hs.up hi ho) hw hoff) (hoff.put _ _) h2.2⟩

theorem put_back (a : Act) (x : Option Tmp) (v : Value) : (a.put x v).put x (match x with | some t => a.tmps.getD t undef | none => undef) = a := by
  cases x with
  | none => rfl
  | some t =>
    refine Off.nil (a := a) ⟨by rw [put_defers, put_defers], by rw [put_size, put_size], fun r _ => ?_⟩
    by_cases hr : t = r
    · subst hr
      rw [put_get_same, put_size]
      exact some_getD _ _
    · have hx : some t ≠ some r := fun e => by injection e with e; exact hr e
      rw [put_get_ne _ _ _ _ hx, put_get_ne _ _ _ _ hx]

theorem Looks.back (hL : Looks S C) {d : Nat → Bool} {a : Act} {w : World} {t : Tmp} {v : Value} (ht : t ∉ S) (h : C d (a.put (some t) v) w) : C d a w := by
  have := hL d _ w t (a.tmps.getD t undef) ht h
  rwa [show (a.put (some t) v).put (some t) (a.tmps.getD t undef) = a from put_back a (some t) v] at this

theorem comes_shift {o : Oper} {i : Nat} {a : Act} {v u : Value} {x : Option Tmp} (hL : Looks S C) (hsel : ∀ cs b, o.op ≠ .select cs b) (hx : ∀ d, x = some d → d ∉ o.looksAt ops)
    (hx2 : ∀ d, x = some d → o.dst ≠ some d) (h : ComesTo P md ops S C o i a v) : ComesTo P md ops S C o i (a.put x u) v := by
  cases x with
  | none => exact h
  | some t =>
    intro d w b hm hc hoff
    by_cases ht : t ∈ S
    · exact h d w b hm hc (hoff.left_in ht)
    · have h1 := h d w (b.put (some t) (a.tmps.getD t undef)) hm (hL _ _ _ _ _ ht hc) hoff.left_put
      rw [execOp_put o hsel b (some t) _ hx] at h1
      refine h1.mono fun u' w' ⟨h2, h3⟩ => ⟨h2, ?_⟩
      rw [Act.put_comm b _ u' (fun e he he' => hx2 e he he')] at h3
      exact hL.back ht h3

theorem passes_shift {o : Oper} {i : Nat} {a : Act} {u : Value} {x : Option Tmp} (hL : Looks S C)
    (hx2 : ∀ d, x = some d → o.dst ≠ some d) (h : Passes md ops S C o i a) : Passes md ops S C o i (a.put x u) := by
  cases x with
  | none => exact h
  | some t =>
    intro d w b hm hc hoff
    by_cases ht : t ∈ S
    · exact h d w b hm hc (hoff.left_in ht)
    · have h1 := h d w (b.put (some t) (a.tmps.getD t undef)) hm (hL _ _ _ _ _ ht hc) hoff.left_put
      rw [Act.put_comm b _ undef (fun e he he' => hx2 e he he')] at h1
      exact hL.back ht h1

/-- In this frame operation number i leaves v in its slot. -/
def YieldsL (P : Program) (md : Region.Mode) (ops : Array Oper) (S : List Tmp) (C : (Nat → Bool) → Act → World → Prop) (o : Oper) (i : Nat) (v : Value) (a : Act) : Prop :=
  (Region.wanted o (yielded ops a.tmps) = true ∧ ComesTo P md ops S C o i a v) ∨
  (Region.wanted o (yielded ops a.tmps) = false ∧ v = undef ∧ Passes md ops S C o i a)

theorem YieldsL.lexOp {i : Nat} {o : Oper} {v : Value} {a : Act} (hi : ops[i]? = some o) (hy : YieldsL P md ops S C o i v a) {K : Act → Prop} (h : K (a.put o.dst v)) : lexOp P md ops S C i K a := by
  unfold Proofs.Ytbaninglcafhhaa.lexOp
  simp only [hi]
  rcases hy with ⟨hw, hv⟩ | ⟨hw, rfl, hp⟩
  · simp only [hw, if_true]; exact ⟨v, hv, h⟩
  · simp only [hw, Bool.false_eq_true, if_false]; exact ⟨hp, h⟩

theorem yieldsL_of_lexOp {i : Nat} {o : Oper} {a : Act} {K : Act → Prop} (hi : ops[i]? = some o) (h : lexOp P md ops S C i K a) : ∃ v, YieldsL P md ops S C o i v a ∧ K (a.put o.dst v) := by
  unfold lexOp at h
  simp only [hi] at h
  by_cases hw : Region.wanted o (yielded ops a.tmps) = true
  · simp only [hw, if_true] at h
    obtain ⟨v, h1, h2⟩ := h
    exact ⟨v, .inl ⟨hw, h1⟩, h2⟩
  · simp only [hw] at h
    exact ⟨undef, .inr ⟨by simpa using hw, rfl, h.1⟩, h.2⟩

theorem lexOp_put {i j : Nat} {oi oj : Oper} {v : Value} (hL : Looks S C) (hj : ops[j]? = some oj) (hap : oi.apart ops oj = true)
    (hsi : ∀ cs b, oi.op ≠ .select cs b) (hsj : ∀ cs b, oj.op ≠ .select cs b) {K : Act → Prop} {a : Act}
    (hy : YieldsL P md ops S C oi i v a) (h : lexOp P md ops S C j K (a.put oi.dst v)) :
    lexOp P md ops S C j (fun a' => YieldsL P md ops S C oi i v a' ∧ K (a'.put oi.dst v)) a := by
  obtain ⟨h1, h2, h3⟩ := Oper.apart_spec hap
  have h2' : ∀ d, oj.dst = some d → oi.dst ≠ some d := fun d hd he => h2 d he hd
  have keep : ∀ (a : Act), YieldsL P md ops S C oi i v a → ∀ u, YieldsL P md ops S C oi i v (a.put oj.dst u) := fun a hy u => by
    unfold YieldsL at *
    rw [wanted_put oi a oj.dst u h3]
    rcases hy with ⟨hw, hv⟩ | ⟨hw, hv, hp⟩
    · exact .inl ⟨hw, comes_shift hL hsi h3 h2' hv⟩
    · exact .inr ⟨hw, hv, passes_shift hL h2' hp⟩
  unfold lexOp at *
  simp only [hj] at *
  rw [wanted_put oj a oi.dst v h1] at h
  split
  · rename_i hw
    simp only [hw, if_true] at h
    obtain ⟨u, hu, hn⟩ := h
    refine ⟨u, ?_, keep a hy u, by rw [← Act.put_comm a v u h2]; exact hn⟩
    have := comes_shift (x := oi.dst) (u := (match oi.dst with | some t => a.tmps.getD t undef | none => undef)) hL hsj h1 h2 hu
    rwa [put_back] at this
  · rename_i hw
    simp only [hw] at h
    refine ⟨?_, keep a hy _, by rw [← Act.put_comm a v undef h2]; exact h.2⟩
    have := passes_shift (x := oi.dst) (u := (match oi.dst with | some t => a.tmps.getD t undef | none => undef)) hL h2 h.1
    rwa [put_back] at this

theorem wpAnyL_first (hL : Looks S C) {Q : Act → Prop} {i : Nat} {oi : Oper} {v : Value} (hi : ops[i]? = some oi) (hsel : ∀ (j : Nat) (o : Oper) cs b, ops[j]? = some o → o.op ≠ .select cs b) :
    ∀ (fuel : Nat) (listed : Array Bool) (a : Act),
      (∀ j oj, ops[j]? = some oj → j ≠ i → listed.getD j true = false → (∀ e ∈ oj.after, Region.binds md e = true → e.on ≠ i) → oi.apart ops oj = true) →
      i ∈ Region.ready md ops listed → YieldsL P md ops S C oi i v a →
      wpAnyL P md ops S C Q fuel (listed.setIfInBounds i true) (a.put oi.dst v) → wpAnyL P md ops S C Q (fuel + 1) listed a := by
  intro fuel
  induction fuel with
  | zero =>
    intro listed a _ hr hy H
    refine ⟨fun h => (by rw [h] at hr; cases hr), fun j hj => ?_⟩
    by_cases hji : j = i
    · subst hji; exact hy.lexOp hi H
    · have := ready_mono hj hji
      rw [H.1] at this
      cases this
  | succ fuel ih =>
    intro listed a hfree hr hy H
    refine ⟨fun h => (by rw [h] at hr; cases hr), fun j hj => ?_⟩
    by_cases hji : j = i
    · subst hji; exact hy.lexOp hi H
    · have h1 := H.2 j (ready_mono hj hji)
      obtain ⟨hjun, oj, hoj, hall⟩ := mem_ready.1 hj
      have hnot : ∀ e ∈ oj.after, Region.binds md e = true → e.on ≠ i := fun e he hb heq => by
        have h1 := hall e he hb
        have h0 := (mem_ready.1 hr).1
        rw [heq] at h1
        rcases Nat.lt_or_ge i listed.size with h' | h'
        · simp [h'] at h0 h1; rw [h0] at h1; cases h1
        · simp [Array.getElem?_eq_none h'] at h1
      have h2 := lexOp_put hL hoj (hfree j oj hoj hji hjun hnot) (fun cs b => hsel i oi cs b hi) (fun cs b => hsel j oj cs b hoj) hy h1
      have hfree' : ∀ k ok, ops[k]? = some ok → k ≠ i → (listed.setIfInBounds j true).getD k true = false →
          (∀ e ∈ ok.after, Region.binds md e = true → e.on ≠ i) → oi.apart ops ok = true := fun k ok hk hki hun hno => by
        refine hfree k ok hk hki ?_ hno
        by_cases hjk : j = k
        · subst hjk; exact hjun
        · rw [getD_set_ne true hjk] at hun; exact hun
      refine lexOp_mono (fun a' h3 => ih (listed.setIfInBounds j true) a' hfree' (ready_mono hr (Ne.symm hji)) h3.1 ?_) h2
      rw [Array.setIfInBounds_comm _ _ hji]
      exact h3.2

theorem wpAnyL_lex (hL : Looks S C) {Q : Act → Prop} (hs : Region.noSelect ops = true) : ∀ (l : List Oper) (k : Nat) (listed : Array Bool) (a : Act), (∀ j, l[j]? = ops[k + j]?) →
    Region.lexFrom md ops l.length k listed = true → wpLex P md ops S C Q l k a → wpAnyL P md ops S C Q l.length listed a
  | [], _, _, _, _, hB, h => ⟨by simpa [Region.lexFrom] using hB, h⟩
  | o :: l, k, listed, a, hl, hB, h => by
    have h0 : ops[k]? = some o := by simpa using (hl 0).symm
    simp only [List.length_cons, Region.lexFrom, Bool.and_eq_true] at hB
    obtain ⟨⟨hr, hf⟩, hB'⟩ := hB
    have hst : lexOp P md ops S C k (wpLex P md ops S C Q l (k + 1)) a := by unfold lexOp; simp only [h0]; exact h
    obtain ⟨v, hy, hK⟩ := yieldsL_of_lexOp h0 hst
    exact wpAnyL_first hL h0 (Region.noSelect_spec hs) l.length listed a (Region.free_spec h0 hf) (by simpa using hr) hy
      (wpAnyL_lex hL hs l (k + 1) _ _ (fun j => by have := hl (j + 1); simpa [Nat.add_assoc, Nat.add_comm 1 j] using this) hB' hK)

theorem lexFrom_lt : ∀ (n k : Nat) (listed : Array Bool), Region.lexFrom md ops n k listed = true → (∀ j, listed.getD j false = true → j < k) →
    ∀ i o, k ≤ i → i < k + n → ops[i]? = some o → ∀ e ∈ o.after, Region.binds md e = true → e.on < i
  | 0, _, _, _, _ => fun i _ h1 h2 => by omega
  | n + 1, k, listed, hB, hl => by
    intro i o h1 h2 ho e he hb
    simp only [Region.lexFrom, Bool.and_eq_true] at hB
    obtain ⟨⟨hr, _⟩, hB'⟩ := hB
    by_cases hik : i = k
    · subst hik
      obtain ⟨_, o', ho', hall⟩ := mem_ready.1 (by simpa using hr : i ∈ Region.ready md ops listed)
      have : o = o' := Option.some.inj (ho.symm.trans ho')
      subst this
      exact hl _ (hall e he hb)
    · refine lexFrom_lt n (k + 1) _ hB' (fun j hj => ?_) i o (by omega) (by omega) ho e he hb
      by_cases hjk : k = j
      · omega
      · rw [getD_set_ne false hjk] at hj
        have := hl j hj
        omega

theorem all_done {l : Array Bool} (hB : Region.lexB md ops = true) (hs : Sound md ops l) (hr : Region.ready md ops l = []) : ∀ n i, i < n → i < ops.size → marksOf l i = true
  | 0, _, h, _ => by omega
  | n + 1, i, h, hi => by
    simp only [Region.lexB, Bool.and_eq_true] at hB
    have hlt := lexFrom_lt (md := md) (ops := ops) ops.size 0 _ hB.2 (fun j hj => by
      rw [Array.getD_eq_getD_getElem?] at hj
      simp only [Array.getElem?_replicate] at hj
      split at hj <;> simp at hj)
    cases hm : marksOf l i with
    | true => rfl
    | false =>
      exfalso
      have ho : ops[i]? = some ops[i] := Array.getElem?_eq_getElem hi
      have : i ∈ Region.ready md ops l := by
        refine mem_ready.2 ⟨?_, _, ho, fun e he hb => ?_⟩
        · have hil : i < l.size := by rw [hs.size]; exact hi
          unfold marksOf at hm
          simp [hil] at hm ⊢
          exact hm
        · have h1 := hlt i _ (by omega) (by omega) ho e he hb
          exact all_done (by simp only [Region.lexB, Bool.and_eq_true]; exact hB) hs hr n e.on (by omega) (by omega)
      rw [hr] at this
      cases this

theorem sound0 (l : List Oper) : Sound .any l.toArray (Array.replicate l.toArray.size false) ∧ marksOf (Array.replicate l.toArray.size false) = fun _ => false := by
  have hm0 : marksOf (Array.replicate l.toArray.size false) = fun _ => false := by
    funext j
    exact getD_replicate_false _ _
  exact ⟨⟨by simp, fun j oj hj hd => by rw [hm0] at hd; cases hd⟩, hm0⟩

/-- A region that draws its order: one walk, in the order of the text, serves every order. S: the slots whose values are not fixed beforehand (a new block's address). -/
theorem wp_region_lex {id : Nat} {Q : Exit → Act → World → Prop} {a : Act} {w : World} {l : List Oper} (S : List Tmp) (C : (Nat → Bool) → Act → World → Prop) (hL : Looks S C)
    (hm : P.follows .mixedOrders = true) (hB : Region.lexB .any l.toArray = true) (hg : guardsOff S l.toArray = true) (hC : C (fun _ => false) a w.drew)
    (h : wpLex P .any l.toArray S C (fun a' => ∀ w' b d, (∀ i, i < l.length → d i = true) → C d b w' → Off S a' b → Q .normal b w') l 0 a) : (Code.region id l.toArray true).wp P Q a w := by
  have hB' := hB
  simp only [Region.lexB, Bool.and_eq_true] at hB
  refine wp_region_any hm ?_
  have hlex := wpAnyL_lex (P := P) hL (md := .any) hB.1 l 0 (Array.replicate l.toArray.size false) a (by simp) (by simpa using hB.2) h
  have hsz : l.toArray.size = l.length := by simp
  rw [← hsz] at hlex
  refine wpAny_of_lex hg ?_ _ _ _ _ _ (sound0 l).1 (by rw [(sound0 l).2]; exact hC) (Off.refl S a) hlex
  intro L a' b w' hs hr hc ho hq
  exact hq w' b _ (fun i hi => all_done hB' hs hr _ i (Nat.lt_succ_self _) (by simpa using hi)) hc ho

/-! ### The same, up to a tail that waits for all the rest -/

def wpHeadL (P : Program) (md : Region.Mode) (ops : Array Oper) (S : List Tmp) (C : (Nat → Bool) → Act → World → Prop) (n : Nat) (L : Array Bool → Act → Prop) : Nat → Array Bool → Act → Prop
  | 0, listed, a => L listed a
  | f + 1, listed, a =>
    Region.ready md ops listed ≠ [] ∧ ∀ i ∈ Region.ready md ops listed, i < n ∧ lexOp P md ops S C i (wpHeadL P md ops S C n L f (listed.setIfInBounds i true)) a

theorem wpAny_of_headL (hg : guardsOff S ops = true) {n g : Nat} {L : Array Bool → Act → Prop} {Q' : Exit → Act → World → Prop}
    (hL : ∀ listed a b w, Sound md ops listed → C (marksOf listed) b w → Off S a b → L listed a → wpAny P md ops Q' g listed b w) :
    ∀ (f : Nat) (listed : Array Bool) (a b : Act) (w : World), Sound md ops listed → C (marksOf listed) b w → Off S a b → wpHeadL P md ops S C n L f listed a → wpAny P md ops Q' (f + g) listed b w
  | 0, listed, a, b, w, hs, hw, ho, h => by rw [Nat.zero_add]; exact hL _ _ _ _ hs hw ho h
  | f + 1, listed, a, b, w, hs, hw, hoff, h => by
    rw [show f + 1 + g = (f + g) + 1 by omega]
    refine ⟨fun h0 => absurd h0 h.1, fun i hi => ?_⟩
    obtain ⟨_, o, ho, _⟩ := mem_ready.1 hi
    have hlt : i < listed.size := by rw [hs.size]; exact (Array.getElem?_eq_some_iff.1 ho).1
    have h2 := (h.2 i hi).2
    unfold lexOp at h2
    unfold wpOp
    simp only [ho] at h2 ⊢
    rw [wanted_off hg hoff ho]
    split
    · rename_i hwa
      simp only [hwa, if_true] at h2
      obtain ⟨v, h3, h4⟩ := h2
      refine .inl (wp_of_comes (h3 _ _ _ (hs.up hi ho) hw hoff) fun u w' hu => ?_)
      refine wpAny_of_headL hg hL f _ (a.put o.dst v) _ _ (hs.set hi) (by rw [marksOf_set hlt]; exact hu.2) ?_ h4
      rcases hu.1 with ⟨t, ht, hin⟩ | rfl
      · rw [ht]; exact hoff.put_in hin _ _
      · exact hoff.put _ _
    · rename_i hwa
      simp only [hwa] at h2
      exact wpAny_of_headL hg hL f _ _ _ _ (hs.set hi) (by rw [marksOf_set hlt]; exact h2.1 _ _ _ (hs.up hi ho) hw hoff) (hoff.put _ _) h2.2

theorem wpHeadL_first (hL : Looks S C) {n i : Nat} {oi : Oper} {v : Value} {L : Array Bool → Act → Prop} (hi : ops[i]? = some oi) (hsel : ∀ (j : Nat) (o : Oper) cs b, ops[j]? = some o → o.op ≠ .select cs b)
    (hs : Region.sinkB md ops n = true) (hc : Region.chainB md ops n = true) (hn : n < ops.size) (hin : i < n)
    (hdone : ∀ listed a, L listed a → ∀ j ∈ Region.ready md ops listed, n ≤ j) :
    ∀ (f : Nat) (listed : Array Bool) (a : Act), HeadInv md ops n listed →
      (∀ j oj, ops[j]? = some oj → j ≠ i → listed.getD j true = false → (∀ e ∈ oj.after, Region.binds md e = true → e.on ≠ i) → oi.apart ops oj = true) →
      i ∈ Region.ready md ops listed → YieldsL P md ops S C oi i v a →
      wpHeadL P md ops S C n L f (listed.setIfInBounds i true) (a.put oi.dst v) → wpHeadL P md ops S C n L (f + 1) listed a := by
  intro f
  induction f with
  | zero =>
    intro listed a inv _ hr hy H
    have hun := (mem_ready.1 hr).1
    refine ⟨fun h => (by rw [h] at hr; cases hr), fun j hj => ?_⟩
    have hjn : j < n := by
      rcases Nat.lt_or_ge j n with h | h
      · exact h
      · exact absurd hj (tail_waits hs hc hn inv _ i rfl hin hun j h)
    refine ⟨hjn, ?_⟩
    by_cases hji : j = i
    · subst hji; exact hy.lexOp hi H
    · have := hdone _ _ H j (ready_mono hj hji)
      omega
  | succ f ih =>
    intro listed a inv hfree hr hy H
    have hun := (mem_ready.1 hr).1
    refine ⟨fun h => (by rw [h] at hr; cases hr), fun j hj => ?_⟩
    have hjn : j < n := by
      rcases Nat.lt_or_ge j n with h | h
      · exact h
      · exact absurd hj (tail_waits hs hc hn inv _ i rfl hin hun j h)
    refine ⟨hjn, ?_⟩
    by_cases hji : j = i
    · subst hji; exact hy.lexOp hi H
    · have h1 := (H.2 j (ready_mono hj hji)).2
      obtain ⟨hjun, oj, hoj, hall⟩ := mem_ready.1 hj
      have hnot : ∀ e ∈ oj.after, Region.binds md e = true → e.on ≠ i := fun e he hb heq => by
        have h1 := hall e he hb
        rw [heq, getD_both hun] at h1
        cases h1
      have h2 := lexOp_put hL hoj (hfree j oj hoj hji hjun hnot) (fun cs b => hsel i oi cs b hi) (fun cs b => hsel j oj cs b hoj) hy h1
      have hfree' : ∀ k ok, ops[k]? = some ok → k ≠ i → (listed.setIfInBounds j true).getD k true = false →
          (∀ e ∈ ok.after, Region.binds md e = true → e.on ≠ i) → oi.apart ops ok = true := fun k ok hk hki hun hno => by
        refine hfree k ok hk hki ?_ hno
        by_cases hjk : j = k
        · subst hjk; exact hjun
        · rw [getD_set_ne true hjk] at hun; exact hun
      refine lexOp_mono (fun a' h3 => ih (listed.setIfInBounds j true) a' (inv.set hj hjn) hfree' (ready_mono hr (Ne.symm hji)) h3.1 ?_) h2
      rw [Array.setIfInBounds_comm _ _ hji]
      exact h3.2

theorem wpHeadL_lex (hL : Looks S C) {n g : Nat} {Lq : Act → Prop} (hsel : Region.noSelect ops = true) (hs : Region.sinkB md ops n = true) (hc : Region.chainB md ops n = true) (hn : n < ops.size) :
    ∀ (l : List Oper) (k : Nat) (listed : Array Bool) (a : Act), (∀ j, j < l.length → l[j]? = ops[k + j]?) → k + l.length = n → HeadInv md ops n listed →
    Region.lexHead md ops g l.length k listed = true → wpLex P md ops S C Lq l k a →
    wpHeadL P md ops S C n (fun listed' a' => Region.seqB md ops g n listed' = true ∧ Lq a') l.length listed a
  | [], k, listed, a, _, hk, _, hB, h => by
    have : k = n := by simpa using hk
    subst this
    exact ⟨by simpa [Region.lexHead] using hB, h⟩
  | o :: l, k, listed, a, hl, hk, inv, hB, h => by
    have h0 : ops[k]? = some o := by simpa using (hl 0 (by simp)).symm
    simp only [List.length_cons, Region.lexHead, Bool.and_eq_true] at hB
    obtain ⟨⟨hr, hf⟩, hB'⟩ := hB
    have hkn : k < n := by simp only [List.length_cons] at hk; omega
    have hr' : k ∈ Region.ready md ops listed := by simpa using hr
    have hst : lexOp P md ops S C k (wpLex P md ops S C Lq l (k + 1)) a := by unfold lexOp; simp only [h0]; exact h
    obtain ⟨v, hy, hK⟩ := yieldsL_of_lexOp h0 hst
    exact wpHeadL_first hL h0 (Region.noSelect_spec hsel) hs hc hn hkn (fun listed' a' hL => seqB_ready hL.1) l.length listed a inv (Region.free_spec h0 hf) hr' hy
      (wpHeadL_lex hL hsel hs hc hn l (k + 1) _ _ (fun j hj => by have := hl (j + 1) (by simp; omega); simpa [Nat.add_assoc, Nat.add_comm 1 j] using this) (by simp only [List.length_cons] at hk; omega) (inv.set hr' hkn) hB' hK)

/-- What is done of a head that has come to its end. -/
theorem head_done {n g : Nat} {listed : Array Bool} (hs : Sound md ops listed) (hseq : Region.seqB md ops g n listed = true) (hlt : ∀ i o, ops[i]? = some o → ∀ e ∈ o.after, Region.binds md e = true → e.on < i) (hn : n ≤ ops.size) : ∀ m i, i < m → i < n → marksOf listed i = true
  | 0, _, h, _ => by omega
  | m + 1, i, h, hi => by
    cases hm : marksOf listed i with
    | true => rfl
    | false =>
      exfalso
      have ho : ops[i]? = some (ops[i]'(by omega)) := Array.getElem?_eq_getElem (by omega)
      have : i ∈ Region.ready md ops listed := by
        refine mem_ready.2 ⟨?_, _, ho, fun e he hb => ?_⟩
        · have hil : i < listed.size := by rw [hs.size]; omega
          unfold marksOf at hm
          simp [hil] at hm ⊢
          exact hm
        · have h1 := hlt i _ ho e he hb
          exact head_done hs hseq hlt hn m e.on (by omega) (by omega)
      have := seqB_ready hseq i this
      omega

/-- A region that draws its order, but for a tail (from number n on) that waits for all the rest and stands in a row: the head is walked in the order of the text, over a class of worlds; the tail is walked as ever, in whatever world of the class. -/
theorem wp_region_lex_tail {id : Nat} {Q : Exit → Act → World → Prop} {a : Act} {w : World} {l : List Oper} (n : Nat) (S : List Tmp) (C : (Nat → Bool) → Act → World → Prop) (hL : Looks S C)
    (hm : P.follows .mixedOrders = true) (hB : Region.lexTailB .any l.toArray n = true) (hB2 : Region.lexB .any l.toArray = true) (hg : guardsOff S l.toArray = true) (hC : C (fun _ => false) a w.drew)
    (h : wpLex P .any l.toArray S C (fun a' => ∀ w' b d, (∀ i, i < n → d i = true) → C d b w' → Off S a' b → wpList P l.toArray Q (l.drop n) b w') (l.take n) 0 a) : (Code.region id l.toArray true).wp P Q a w := by
  simp only [Region.lexB, Bool.and_eq_true] at hB2
  have hlt := lexFrom_lt (md := .any) (ops := l.toArray) l.toArray.size 0 _ hB2.2 (fun j hj => by rw [getD_replicate_false] at hj; cases hj)
  simp only [Region.lexTailB, Bool.and_eq_true, decide_eq_true_eq] at hB
  obtain ⟨⟨⟨⟨hsel, hn⟩, hs⟩, hc⟩, hlex⟩ := hB
  have hn' : n < l.length := by simpa using hn
  have htl : (l.take n).length = n := by simp; omega
  have hdl : (l.drop n).length = l.toArray.size - n := by simp
  have inv0 : HeadInv .any l.toArray n (Array.replicate l.toArray.size false) :=
    ⟨by simp, fun j oj _ hl => (by rw [getD_replicate_false] at hl; cases hl), fun t _ ht => getD_in (by simpa using ht) (getD_replicate_false _ _)⟩
  have H := wpHeadL_lex hL (md := .any) (g := l.toArray.size - n) hsel hs hc hn (l.take n) 0 _ a (fun j hj => by
    have hj' : j < n := by rw [htl] at hj; exact hj
    simp [hj']) (by simpa using htl) inv0 (by rw [htl]; exact hlex) h
  refine wp_region_any hm ?_
  have := wpAny_of_headL (Q' := Q) (C := C) (g := l.toArray.size - n) hg (fun listed a' b w' hsd hw' ho hl => by
    have hd : ∀ i, i < n → marksOf listed i = true := fun i hi =>
      head_done hsd hl.1 (fun i o hio => hlt i o (Nat.zero_le _) (by have := (Array.getElem?_eq_some_iff.1 hio).1; omega) hio) (by omega) (i + 1) i (by omega) hi
    have := wpAny_of_seq (md := .any) (Q' := Q) (l.drop n) n listed b w' (fun j => by simp [List.getElem?_drop]) (by rw [hdl]; exact hl.1) (hl.2 w' b _ hd hw' ho)
    rwa [hdl] at this) _ _ _ _ { w with drawn := w.drawn + 1 } (sound0 l).1 (by rw [(sound0 l).2]; exact hC) (Off.refl S a) H
  rw [htl, show n + (l.toArray.size - n) = l.toArray.size by omega] at this
  exact this

theorem looks_plain (C : World → Prop) : Looks [] (fun (_ : Nat → Bool) (_ : Act) w => C w) := fun _ _ _ _ _ _ h => h
theorem looks_done (C : (Nat → Bool) → World → Prop) : Looks [] (fun d (_ : Act) w => C d w) := fun _ _ _ _ _ _ h => h

theorem guardsOff_nil (ops : Array Oper) : guardsOff [] ops = true := by
  unfold guardsOff
  rw [Array.all_eq_true]
  intro i hi
  split
  · rfl
  · split <;> simp

/-- One operation of such a walk, where the class asks neither what is done nor what the frame holds. -/
theorem comes_plain {C : World → Prop} {o : Oper} {i : Nat} {a : Act} {v : Value} (h : ∀ w, C w → UponC P (fun u w' => u = v ∧ C w') ((execOp a.eval o).run P w)) :
    ComesTo P md ops [] (fun _ _ w => C w) o i a v := by
  intro d w b _ hc ho
  obtain rfl := ho.nil
  exact (h w hc).mono fun u w' ⟨h1, h2⟩ => ⟨.inr h1, h2⟩
theorem passes_plain {C : World → Prop} {o : Oper} {i : Nat} {a : Act} : Passes md ops [] (fun _ _ w => C w) o i a := fun _ _ _ _ h _ => h

theorem wpLex_plain {C : World → Prop} {Q : Act → Prop} {o : Oper} {rest : List Oper} {i : Nat} {a : Act} (hw : Region.wanted o (yielded ops a.tmps) = true)
    (h : ∃ v, (∀ w, C w → UponC P (fun u w' => u = v ∧ C w') ((execOp a.eval o).run P w)) ∧ wpLex P md ops [] (fun _ _ w => C w) Q rest (i + 1) (a.put o.dst v)) : wpLex P md ops [] (fun _ _ w => C w) Q (o :: rest) i a :=
  let ⟨v, hv, hr⟩ := h
  wpLex_want v hw (comes_plain hv) hr

/-- The class asks what is done. -/
theorem comes_done {C : (Nat → Bool) → World → Prop} {o : Oper} {i : Nat} {a : Act} {v : Value} (h : ∀ d w, MayComeUp md ops o i d → C d w → UponC P (fun u w' => u = v ∧ C (done1 d i) w') ((execOp a.eval o).run P w)) :
    ComesTo P md ops [] (fun d _ w => C d w) o i a v := by
  intro d w b hm hc ho
  obtain rfl := ho.nil
  exact (h d w hm hc).mono fun u w' ⟨h1, h2⟩ => ⟨.inr h1, h2⟩

theorem passes_done {C : (Nat → Bool) → World → Prop} {o : Oper} {i : Nat} {a : Act} (h : ∀ d w, MayComeUp md ops o i d → C d w → C (done1 d i) w) : Passes md ops [] (fun d _ w => C d w) o i a :=
  fun d w _ hm hc _ => h d w hm hc

/-- The same where the class does not ask what is done, and there is no tail. -/
theorem wp_region_class {id : Nat} {Q : Exit → Act → World → Prop} {a : Act} {w : World} {l : List Oper} (C : World → Prop)
    (hm : P.follows .mixedOrders = true) (hB : Region.lexB .any l.toArray = true) (hC : C w.drew)
    (h : wpLex P .any l.toArray [] (fun _ _ w => C w) (fun a' => ∀ w', C w' → Q .normal a' w') l 0 a) : (Code.region id l.toArray true).wp P Q a w :=
  wp_region_lex [] (fun _ _ w => C w) (looks_plain C) hm hB (guardsOff_nil _) hC (wpLex_mono (fun _ hq w' b _ _ hc ho => by rw [ho.nil]; exact hq w' hc) l 0 a h)

/-- The class asks what is done, and there is no tail. -/
theorem wp_region_done {id : Nat} {Q : Exit → Act → World → Prop} {a : Act} {w : World} {l : List Oper} (C : (Nat → Bool) → World → Prop)
    (hm : P.follows .mixedOrders = true) (hB : Region.lexB .any l.toArray = true) (hC : C (fun _ => false) w.drew)
    (h : wpLex P .any l.toArray [] (fun d _ w => C d w) (fun a' => ∀ w' d, (∀ i, i < l.length → d i = true) → C d w' → Q .normal a' w') l 0 a) : (Code.region id l.toArray true).wp P Q a w :=
  wp_region_lex [] (fun d _ w => C d w) (looks_done C) hm hB (guardsOff_nil _) hC (wpLex_mono (fun _ hq w' b d hd hc ho => by rw [ho.nil]; exact hq w' d hd hc) l 0 a h)

/-- .. and there is one. -/
theorem wp_region_class_tail {id : Nat} {Q : Exit → Act → World → Prop} {a : Act} {w : World} {l : List Oper} (n : Nat) (C : World → Prop)
    (hm : P.follows .mixedOrders = true) (hB : Region.lexTailB .any l.toArray n = true) (hB2 : Region.lexB .any l.toArray = true) (hC : C w.drew)
    (h : wpLex P .any l.toArray [] (fun _ _ w => C w) (fun a' => ∀ w', C w' → wpList P l.toArray Q (l.drop n) a' w') (l.take n) 0 a) : (Code.region id l.toArray true).wp P Q a w :=
  wp_region_lex_tail n [] (fun _ _ w => C w) (looks_plain C) hm hB hB2 (guardsOff_nil _) hC (wpLex_mono (fun _ hq w' b _ _ hc ho => by rw [ho.nil]; exact hq w' hc) _ 0 a h)

theorem up_lt {ops : Array Oper} (hlt : ∀ i o, ops[i]? = some o → ∀ e ∈ o.after, Region.binds md e = true → e.on < i) {i : Nat} {o : Oper} (ho : ops[i]? = some o) : MayComeUp md ops o i (fun j => decide (j < i)) := by
  refine ⟨by simp, fun e he hb => by simpa using hlt i o ho e he hb, fun j oj hj hd e he hb => ?_⟩
  have h1 := hlt j oj hj e he hb
  simp only [decide_eq_true_eq] at hd ⊢
  omega

theorem wpList_of_lex {C : World → Prop} {Q : Act → Prop} {Q' : Exit → Act → World → Prop} (hlt : ∀ i o, ops[i]? = some o → ∀ e ∈ o.after, Region.binds md e = true → e.on < i) (hq : ∀ a w, C w → Q a → Q' .normal a w) :
    ∀ (l : List Oper) (k : Nat) (a : Act) (w : World), (∀ j, l[j]? = ops[k + j]?) → C w → wpLex P md ops [] (fun _ _ w => C w) Q l k a → wpList P ops Q' l a w
  | [], _, _, _, _, hc, h => hq _ _ hc h
  | o :: l, k, a, w, hl, hc, h => by
    have h0 : ops[k]? = some o := by simpa using (hl 0).symm
    have hl' : ∀ j, l[j]? = ops[k + 1 + j]? := fun j => by have := hl (j + 1); simpa [Nat.add_assoc, Nat.add_comm 1 j] using this
    unfold wpLex at h
    unfold wpList
    split
    · rename_i hw
      rw [if_pos hw] at h
      obtain ⟨v, h1, h2⟩ := h
      refine .inl (wp_of_comes (h1 _ _ _ (up_lt hlt h0) hc (Off.refl [] a)) fun u w' hu => ?_)
      have hv : u = v := by
        rcases hu.1 with ⟨t, _, ht⟩ | hv
        · cases ht
        · exact hv
      subst hv
      exact wpList_of_lex hlt hq l (k + 1) _ w' hl' hu.2 h2
    · rename_i hw
      rw [if_neg hw] at h
      exact wpList_of_lex hlt hq l (k + 1) _ w hl' hc h.2

/-- The same walk for a region that does not draw: where a guard is not decided, its slot holds the value or nothing. -/
theorem wp_region_plain {id : Nat} {Q : Exit → Act → World → Prop} {a : Act} {w : World} {l : List Oper} (C : World → Prop)
    (hB : Region.lexB .any l.toArray = true) (hC : C w)
    (h : wpLex P .any l.toArray [] (fun _ _ w => C w) (fun a' => ∀ w', C w' → Q .normal a' w') l 0 a) : (Code.region id l.toArray false).wp P Q a w := by
  simp only [Region.lexB, Bool.and_eq_true] at hB
  have hlt := lexFrom_lt (md := .any) (ops := l.toArray) l.toArray.size 0 _ hB.2 (fun j hj => by rw [getD_replicate_false] at hj; cases hj)
  refine wp_region_lit (wpList_of_lex (fun i o hio => hlt i o (Nat.zero_le _) (by have := (Array.getElem?_eq_some_iff.1 hio).1; omega) hio) (fun a w hc hq => hq w hc) l 0 a w (by simp) hC h)
end
end Go.Proofs.Ytbaninglcafhhaa
