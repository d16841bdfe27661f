/-
  A drawn region with one call that writes over blocks of two types alone, beside what is promised of blocks of other types. Conditions: none.
-/
import Derived.Test.YtddbndmbcdeggaaPut2
namespace Go.Proofs.Ytddbndmbcdeggaa
open Go Go.RowKit

/-- Blocks of types other than these two stay. -/
def KeepT (T1 T2 : TypeId) (w w' : World) : Prop := w.heap.size ≤ w'.heap.size ∧ ∀ (b : Nat) (cs : Array Value) (T : TypeId), w.heap[b]? = some (Obj.cells cs T (0, 0)) → T ≠ T1 → T ≠ T2 → w'.heap[b]? = some (Obj.cells cs T (0, 0))
def StabC (T1 T2 : TypeId) (F : Value → World → Prop) : Prop := ∀ v w w', F v w → KeepT T1 T2 w w' → F v w'
def CallOk (T1 T2 : TypeId) (p : Gp) (B : Nat) (W0 w : World) (v x : Value) (w' : World) : Prop := x = v ∧ p.V undef ∧ p.F undef w' ∧ Below B W0 w' ∧ KeepT T1 T2 w w'
theorem callOk {T1 T2 : TypeId} {p : Gp} {B : Nat} {W0 w : World} {v : Value} {w' : World} (h1 : p.V undef) (h2 : p.F undef w') (h3 : Below B W0 w') (h4 : KeepT T1 T2 w w') : CallOk T1 T2 p B W0 w v v w' := ⟨rfl, h1, h2, h3, h4⟩
theorem KeepT.of_below {T1 T2 : TypeId} {w w' : World} (h : Below w.heap.size w w') : KeepT T1 T2 w w' := ⟨h.size, fun b _cs _T hb _ _ => (h.block b (heap_lt hb)).trans hb⟩
theorem KeepT.trans {T1 T2 : TypeId} {a b c : World} (h : KeepT T1 T2 a b) (k : KeepT T1 T2 b c) : KeepT T1 T2 a c := ⟨Nat.le_trans h.1 k.1, fun x cs T hb n1 n2 => k.2 x cs T (h.2 x cs T hb n1 n2) n1 n2⟩
theorem BlkG.stabC {g : Nat} {T T1 T2 : TypeId} {cs : Array Value} (h1 : T ≠ T1) (h2 : T ≠ T2) : StabC T1 T2 (BlkG g T cs) := fun _ _ _ h k => k.2 _ _ _ h h1 h2
theorem NewG.stabC {B0 : Nat} {T T1 T2 : TypeId} {cs : Array Value} (h1 : T ≠ T1) (h2 : T ≠ T2) : StabC T1 T2 (NewG B0 T cs) := fun _ _ _ h k => by
  obtain ⟨g, e, hg, hx⟩ := h
  exact ⟨g, e, hg, k.2 _ _ _ hx h1 h2⟩
def StabCFrom (T1 T2 : TypeId) (i m j : Nat) (ps : List Gp) : Prop := ∀ k q, ps[k]? = some q → j + k ≠ m → q.off ≠ some i → StabC T1 T2 q.F
theorem stabC_nil {T1 T2 : TypeId} {i m j : Nat} : StabCFrom T1 T2 i m j [] := fun k q h => by simp at h
theorem stabC_cons {T1 T2 : TypeId} {i m j : Nat} {p : Gp} {ps : List Gp} (h : j = m ∨ p.off = some i ∨ StabC T1 T2 p.F) (hs : StabCFrom T1 T2 i m (j + 1) ps) : StabCFrom T1 T2 i m j (p :: ps) := fun k q hq hk hn => by
  cases k with
  | zero =>
    simp at hq
    subst hq
    rcases h with h | h | h
    · omega
    · exact absurd h hn
    · exact h
  | succ k => exact hs k q (by simpa using hq) (by omega) hn

section
variable {P : Program} {ops : Array Oper} {md : Region.Mode} {B : Nat} {W0 : World} {ps : List Gp} {S : List Tmp}
theorem wpLex_genCall {Q : Act → Prop} {rest : List Oper} {o : Oper} {i : Nat} {a : Act} (T1 T2 : TypeId) (m : Nat) (p : Gp) (js : List Nat) (hp : ps[m]? = some p) (hon : (p.on == some i) = true) (hsl : (p.slot == none) = true) (hw : Region.wanted o (yielded ops a.tmps) = true) (hjs : js.all (useG md ops o i ps) = true)
    (hdst : (ps.all fun q => o.dst == none || o.dst != q.slot) = true) (hl : loneSG ps m i = true) (hsb : StabCFrom T1 T2 i m 0 ps)
    (h : ∃ v, (∀ (u : Tmp → Value) w, Below B W0 w → KnownG ps js u w → UponC P (CallOk T1 T2 p B W0 w v) ((execOp (putS a S u).eval o).run P w)) ∧ wpLex P md ops S (GenC B W0 ps) Q rest (i + 1) (a.put o.dst v)) :
    wpLex P md ops S (GenC B W0 ps) Q (o :: rest) i a := by
  obtain ⟨v, hv, hr⟩ := h
  refine wpLex_want v hw (fun d w b hm hc ho => ?_) hr
  have hk := knownG_of hm hc hjs
  rw [off_putS S a b ho]
  refine (hv _ w hc.1 hk).mono fun x w' ⟨k0, k1, k2, k3, k4⟩ => ⟨.inr k0, k3, fun q hq hd => ?_⟩
  rw [← off_putS S a b ho]
  obtain ⟨k, hkl, hkq⟩ := List.getElem_of_mem hq
  by_cases hkm : k = m
  · subst hkm
    have : q = p := by
      have h2 := List.getElem?_eq_getElem hkl
      rw [hkq, hp] at h2
      exact (Option.some.inj h2).symm
    subst this
    have hs1 : q.slot = none := by simpa using hsl
    exact ⟨undef, by unfold Gp.here; rw [hs1], k1, fun _ => k2⟩
  · have h1 := List.all_eq_true.1 hl k (List.mem_range.2 hkl)
    rw [List.getElem?_eq_getElem hkl, hkq] at h1
    simp only [Bool.or_eq_true, beq_iff_eq, hkm, false_or] at h1
    obtain ⟨y, e1, e2, e3⟩ := hc.2 q hq (begun_back h1 hd)
    have hx := List.all_eq_true.1 hdst q hq
    simp only [Bool.or_eq_true, beq_iff_eq, bne_iff_ne] at hx
    refine ⟨y, Gp.here_put hx e1, e2, fun ha => ?_⟩
    have hne : q.off ≠ some i := by
      intro e
      unfold alive done1 at ha
      rw [e] at ha
      simp at ha
    exact hsb k q (by rw [List.getElem?_eq_getElem hkl, hkq]) (by omega) hne _ _ _ (e3 (alive_back ha)) k4
/-- Waits for it, by others between. -/
def waitsN (md : Region.Mode) (ops : Array Oper) : Nat → Nat → Nat → Bool
  | 0, _, _ => false
  | n + 1, k, i => match ops.toList[k]? with
    | none => false
    | some o => o.after.toList.any fun e => Region.binds md e && (e.on == i || waitsN md ops n e.on i)
theorem up_waitsN {o : Oper} {i : Nat} {d : Nat → Bool} (hm : MayComeUp md ops o i d) : ∀ (n k : Nat), waitsN md ops n k i = true → d k = false
  | 0, _, h => by cases h
  | n + 1, k, h => by
    unfold waitsN at h
    cases hk : ops.toList[k]? with
    | none => rw [hk] at h; cases h
    | some oj =>
      rw [hk] at h
      obtain ⟨e, he, hb⟩ := List.any_eq_true.1 h
      simp only [Bool.and_eq_true, Bool.or_eq_true, beq_iff_eq] at hb
      cases hd : d k with
      | false => rfl
      | true =>
        have h1 := hm.2.2 k oj (by simpa using hk) hd e (by simpa using he) hb.1
        rcases hb.2 with h2 | h2
        · rw [h2, hm.1] at h1; cases h1
        · rw [up_waitsN hm n e.on h2] at h1; cases h1
def useGN (md : Region.Mode) (ops : Array Oper) (o : Oper) (i : Nat) (ps : List Gp) (j : Nat) : Bool := match ps[j]? with
  | none => false
  | some p => (match p.on with | none => true | some k => leans md o k) && (match p.off with | none => true | some k => k == i || waitsN md ops 8 k i)
theorem knownGN_of {o : Oper} {i : Nat} {d : Nat → Bool} {b : Act} {w : World} {js : List Nat} (hm : MayComeUp md ops o i d) (hc : GenC B W0 ps d b w) (hjs : js.all (useGN md ops o i ps) = true) :
    KnownG ps js (fun t => b.tmps.getD t undef) w := by
  intro j hj p hp
  have h1 := List.all_eq_true.1 hjs j hj
  unfold useGN at h1
  rw [hp] at h1
  simp only [Bool.and_eq_true] at h1
  obtain ⟨v, e1, e2, e3⟩ := hc.2 p (List.mem_of_getElem? hp) (begun_of hm h1.1)
  rw [Gp.here_val e1]
  refine ⟨e2, e3 ?_⟩
  have h2 := h1.2
  unfold alive
  cases hof : p.off with
  | none => rfl
  | some k =>
    rw [hof] at h2
    simp only [Bool.or_eq_true, beq_iff_eq] at h2
    rcases h2 with rfl | h2
    · simp [hm.1]
    · simp [up_waitsN hm 8 k h2]
theorem wpLex_genUseN {Q : Act → Prop} {rest : List Oper} {o : Oper} {i : Nat} {a : Act} (js : List Nat) (hB : B ≤ W0.heap.size) (hst : StaysG ps) (hw : Region.wanted o (yielded ops a.tmps) = true) (hjs : js.all (useGN md ops o i ps) = true) (hdst : offG ps o i = true)
    (h : ∃ v, (∀ (u : Tmp → Value) w, Below B W0 w → KnownG ps js u w → UponC P (fun x w' => x = v ∧ Below w.heap.size w w') ((execOp (putS a S u).eval o).run P w)) ∧ wpLex P md ops S (GenC B W0 ps) Q rest (i + 1) (a.put o.dst v)) :
    wpLex P md ops S (GenC B W0 ps) Q (o :: rest) i a := by
  obtain ⟨v, hv, hr⟩ := h
  refine wpLex_want v hw (fun d w b hm hc ho => ?_) hr
  have hk := knownGN_of hm hc hjs
  rw [off_putS S a b ho]
  refine (hv _ w hc.1 hk).mono fun x w' ⟨k1, k2⟩ => ⟨.inr k1, hc.1.trans (k2.mono (Nat.le_trans hB hc.1.size)), fun p hp hd => ?_⟩
  rw [← off_putS S a b ho]
  exact genC_keep hst hc k2 p hp (offG_of hdst hp).1 (offG_of hdst hp).2 hd

/-- It stays true when one block of type T from lo on is written over. -/
def StabLo (T : TypeId) (lo : Nat) (F : Value → World → Prop) : Prop := ∀ v w w' (g : Nat) (cs : Array Value), F v w → lo ≤ g → w.heap[g]? = some (Obj.cells cs T (0, 0)) → (∀ x, x ≠ g → w'.heap[x]? = w.heap[x]?) → w.heap.size ≤ w'.heap.size → F v w'
theorem Stab.lo {T : TypeId} {lo : Nat} {F : Value → World → Prop} (h : Stab T F) : StabLo T lo F := fun v w w' g cs h1 _ h3 h4 h5 => h v w w' g cs h1 h3 h4 h5
theorem BlkG.stabLo {T T' : TypeId} {lo g : Nat} {cs : Array Value} (hg : g < lo) : StabLo T lo (BlkG g T' cs) := fun _ _ _ x _ h h1 _ h4 _ => (h4 g (by omega)).trans h
def StabLoFrom (T : TypeId) (lo i m j : Nat) (ps : List Gp) : Prop := ∀ k q, ps[k]? = some q → j + k ≠ m → q.off ≠ some i → StabLo T lo q.F
theorem stabLo_nil {T : TypeId} {lo i m j : Nat} : StabLoFrom T lo i m j [] := fun k q h => by simp at h
theorem stabLo_cons {T : TypeId} {lo i m j : Nat} {p : Gp} {ps : List Gp} (h : j = m ∨ p.off = some i ∨ StabLo T lo p.F) (hs : StabLoFrom T lo i m (j + 1) ps) : StabLoFrom T lo i m j (p :: ps) := fun k q hq hk hn => by
  cases k with
  | zero =>
    simp at hq
    subst hq
    rcases h with h | h | h
    · omega
    · exact absurd h hn
    · exact h
  | succ k => exact hs k q (by simpa using hq) (by omega) hn
def StoreLo (T : TypeId) (lo : Nat) (p : Gp) (B : Nat) (W0 w : World) (v x : Value) (w' : World) : Prop :=
  x = undef ∧ p.V v ∧ p.F v w' ∧ Below B W0 w' ∧ w.heap.size ≤ w'.heap.size ∧ ∃ (g : Nat) (cs : Array Value), lo ≤ g ∧ w.heap[g]? = some (Obj.cells cs T (0, 0)) ∧ ∀ y, y ≠ g → w'.heap[y]? = w.heap[y]?
theorem storeLo {T : TypeId} {lo : Nat} {p : Gp} {B : Nat} {W0 w : World} {v : Value} {w' : World} (h1 : p.V v) (h2 : p.F v w') (h3 : Below B W0 w') (h4 : w.heap.size ≤ w'.heap.size) (g : Nat) (hlo : lo ≤ g) {cs : Array Value} (h5 : w.heap[g]? = some (Obj.cells cs T (0, 0))) (h6 : ∀ y, y ≠ g → w'.heap[y]? = w.heap[y]?) : StoreLo T lo p B W0 w v undef w' := ⟨rfl, h1, h2, h3, h4, g, cs, hlo, h5, h6⟩
theorem wpLex_genStoreLo {Q : Act → Prop} {rest : List Oper} {o : Oper} {i : Nat} {a : Act} (T : TypeId) (lo : Nat) (m : Nat) (p : Gp) (js : List Nat) (hp : ps[m]? = some p) (hon : (p.on == some i) = true) (hw : Region.wanted o (yielded ops a.tmps) = true) (hjs : js.all (useG md ops o i ps) = true)
    (hdst : o.dst = none) (hsz0 : (match p.slot with | some s => decide (s < a.tmps.size) | none => true) = true) (hl : loneSG ps m i = true) (hsb : StabLoFrom T lo i m 0 ps)
    (h : ∀ (u : Tmp → Value) w, Below B W0 w → KnownG ps js u w → UponC P (StoreLo T lo p B W0 w (p.val u)) ((execOp (putS a S u).eval o).run P w)) (hr : wpLex P md ops S (GenC B W0 ps) Q rest (i + 1) a) :
    wpLex P md ops S (GenC B W0 ps) Q (o :: rest) i a := by
  refine wpLex_want undef hw (fun d w b hm hc ho => ?_) (by rw [hdst]; exact hr)
  have hk := knownG_of hm hc hjs
  rw [off_putS S a b ho]
  refine (h _ w hc.1 hk).mono fun x w' ⟨k0, k1, k2, k3, k4, g, cs, klo, k5, k6⟩ => ⟨.inr k0, k3, fun q hq hd => ?_⟩
  rw [← off_putS S a b ho, hdst]
  obtain ⟨k, hkl, hkq⟩ := List.getElem_of_mem hq
  by_cases hkm : k = m
  · subst hkm
    have : q = p := by
      have h2 := List.getElem?_eq_getElem hkl
      rw [hkq, hp] at h2
      exact (Option.some.inj h2).symm
    subst this
    refine ⟨_, ?_, k1, fun _ => k2⟩
    unfold Gp.here Gp.val
    cases hs : q.slot with
    | none => rfl
    | some s =>
      rw [hs] at hsz0
      dsimp only at hsz0 ⊢
      have hs2 : s < b.tmps.size := by rw [ho.2.1]; exact of_decide_eq_true hsz0
      show b.tmps[s]? = some (b.tmps.getD s undef)
      rw [Array.getD_eq_getD_getElem?, Array.getElem?_eq_getElem hs2]
      rfl
  · have h1 := List.all_eq_true.1 hl k (List.mem_range.2 hkl)
    rw [List.getElem?_eq_getElem hkl, hkq] at h1
    simp only [Bool.or_eq_true, beq_iff_eq, hkm, false_or] at h1
    obtain ⟨y, e1, e2, e3⟩ := hc.2 q hq (begun_back h1 hd)
    refine ⟨y, e1, e2, fun ha => ?_⟩
    have hne : q.off ≠ some i := by
      intro e
      unfold alive done1 at ha
      rw [e] at ha
      simp at ha
    exact hsb k q (by rw [List.getElem?_eq_getElem hkl, hkq]) (by omega) hne _ _ _ _ _ (e3 (alive_back ha)) klo k5 k6 k4
/-- A call (or an append) whose value is known only by a property, and that writes over blocks of two types alone. -/
def CallMk (T1 T2 : TypeId) (p : Gp) (B : Nat) (W0 w : World) (x : Value) (w' : World) : Prop := p.V x ∧ p.F x w' ∧ Below B W0 w' ∧ KeepT T1 T2 w w'
theorem wpLex_genCallM {Q : Act → Prop} {rest : List Oper} {o : Oper} {i : Nat} {a : Act} (T1 T2 : TypeId) (m : Nat) (p : Gp) (t : Tmp) (js : List Nat) (hp : ps[m]? = some p) (hon : (p.on == some i) = true) (hsl : (p.slot == some t) = true) (hw : Region.wanted o (yielded ops a.tmps) = true) (hjs : js.all (useG md ops o i ps) = true)
    (hdst : (o.dst == some t) = true) (hin : S.contains t = true) (hsz0 : decide (t < a.tmps.size) = true) (hl : loneG md ops ps m i t = true) (hsb : StabCFrom T1 T2 i m 0 ps)
    (h : ∀ (u : Tmp → Value) w, Below B W0 w → KnownG ps js u w → UponC P (CallMk T1 T2 p B W0 w) ((execOp (putS a S u).eval o).run P w)) (hr : wpLex P md ops S (GenC B W0 ps) Q rest (i + 1) (a.put o.dst undef)) :
    wpLex P md ops S (GenC B W0 ps) Q (o :: rest) i a := by
  have hd1 : o.dst = some t := by simpa using hdst
  have hs1 : p.slot = some t := by simpa using hsl
  have hsz : t < a.tmps.size := of_decide_eq_true hsz0
  refine wpLex_want undef hw (fun d w b hm hc ho => ?_) hr
  have hk := knownG_of hm hc hjs
  rw [off_putS S a b ho]
  refine (h _ w hc.1 hk).mono fun x w' ⟨k1, k2, k3, k4⟩ => ⟨.inl ⟨_, hd1, by simpa using hin⟩, k3, fun q hq hd => ?_⟩
  rw [← off_putS S a b ho]
  obtain ⟨k, hkl, hkq⟩ := List.getElem_of_mem hq
  by_cases hkm : k = m
  · subst hkm
    have : q = p := by
      have h2 := List.getElem?_eq_getElem hkl
      rw [hkq, hp] at h2
      exact (Option.some.inj h2).symm
    subst this
    refine ⟨x, ?_, k1, fun _ => k2⟩
    unfold Gp.here
    rw [hs1]
    dsimp only
    rw [hd1, put_get_same, ho.2.1, if_pos hsz]
  · have h1 := List.all_eq_true.1 hl k (List.mem_range.2 hkl)
    rw [List.getElem?_eq_getElem hkl, hkq] at h1
    simp only [Bool.or_eq_true, beq_iff_eq, Bool.and_eq_true, hkm, false_or] at h1
    have hbg := begun_back h1.1 hd
    rcases h1.2 with h2 | h2
    · obtain ⟨y, e1, e2, e3⟩ := hc.2 q hq hbg
      refine ⟨y, Gp.here_put (.inr (by rw [hd1]; intro e; simp [← e] at h2)) e1, e2, fun ha => ?_⟩
      have hne : q.off ≠ some i := by
        intro e
        unfold alive done1 at ha
        rw [e] at ha
        simp at ha
      exact hsb k q (by rw [List.getElem?_eq_getElem hkl, hkq]) (by omega) hne _ _ _ (e3 (alive_back ha)) k4
    · cases hqo : q.on with
      | none => rw [hqo] at h2; cases h2
      | some j =>
        rw [hqo] at h2
        have h3 := up_waits hm h2
        unfold begun at hbg
        rw [hqo] at hbg
        dsimp only at hbg
        rw [h3] at hbg
        cases hbg
end
theorem upon_append_one {P : Program} {α : Type} {f : α → List Value} {w : World} {o : Oper} {a : Act} (s x : Operand) (t : TypeId) (ho : o.op = .call { callee := .builtin .append, args := #[s, x], argTypes := #[t, t] })
    (base : Nat) (e : TypeId) (i : TypeInfo) (z : Value) (size bytes : Nat) (ht : P.underlying t = some (.slice e)) (hi : P.info? e = some i) (hz : i.zero = some z)
    (hsize : i.size = size) (hby : i.bytes = bytes) (hzs : z.cells.size = size) (hsz : 0 < size) (hf : ∀ a, (f a).length = size) (h1 : ∀ a, ∀ u ∈ f a, u.oneCell' = true)
    (l l' : List α) (y : α) (hl : l' = l ++ [y]) (A : Option Addr) (c : Nat) (hs : a.eval s = .slice A l.length c) (hown : Own w base e size f l A c) (g : Nat) (hx : a.eval x = .slice (some ⟨g, 0, none⟩) 1 1) (hg : w.heap[g]? = some (.cells (f y).toArray e (0, 0)))
    (h63 : l.length + 1 ≤ maxLen) (hbytes : (l.length + 1) * bytes ≤ 140737488355328) (hbase : base ≤ w.heap.size) :
    UponC P (fun v w' => ∃ A' c', v = .slice A' l'.length c' ∧ Own w' base e size f l' A' c' ∧ Below base w w' ∧ (∀ b, b < w.heap.size → (∀ p : Addr, A = some p → p.block ≠ b) → w'.heap[b]? = w.heap[b]?)) ((execOp a.eval o).run P w) := by
  have hr : Reads w w.heap.size size (some ⟨g, 0, none⟩) 1 (f y) := by
    refine ⟨by simp [hf], fun _ => ⟨_, rfl, heap_lt hg, fun j u hu => ?_⟩⟩
    have e1 : (⟨g, 0, none⟩ : Addr).add j = ⟨g, j, none⟩ := by
      unfold Addr.add
      by_cases z : j = 0 <;> simp [z]
    rw [e1, cell_of_row _ _ j _ _ _ hg]
    simpa using hu
  obtain ⟨v', w', hrun, h2, h3, h4⟩ := run_append_any (P := P) w base t o.type e i z size bytes ht hi hz hsize hby hzs hsz _ l.length (l.flatMap f) hown _ _ 1 1 (f y) hr (h1 y) h63 hbytes hbase
  unfold execOp
  simp only [ho, resolve, invoke, builtin, Sem.run_bind, Sem.run_pure, Result.andThen_ok, List.map_toArray, List.map_cons, List.map_nil, hs, hx, hrun]
  have hown2 : w'.ownsRow base e size v' l'.length (l'.flatMap f) := by rw [hl, List.length_append, List.flatMap_append, List.flatMap_singleton]; exact h2
  obtain ⟨A', c', rfl, ho'⟩ := own_form hown2
  refine ⟨A', c', rfl, ho', ((Below.refl _ _).grown h3 hbase (fun k hk => (World.ownsRow.lt hown k hk).1)), (fun b hb hne => h3.block b hb (fun e => ?_))⟩
  cases A with
  | none => cases e
  | some p =>
    have : b = p.block := by injection e
    exact hne p rfl this.symm

end Go.Proofs.Ytddbndmbcdeggaa
