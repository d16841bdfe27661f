/-
  What a round of 'TlbExact' leaves behind its switch; what a search finds. Conditions: none.
-/
import Derived.Test.YtbaninglcafhhaaRDrop
import Derived.Test.YtbaninglcafhhaaRWalk
import Derived.Test.YtbaninglcafhhaaWalkQ
import Derived.Test.YtbaninglcafhhaaRLook
import Derived.Test.YtbaninglcafhhaaLook
import Derived.Test.YtbaninglcafhhaaRFill
import Derived.Test.YtbaninglcafhhaaRefT
import Derived.Test.YtbaninglcafhhaaLz
import Derived.Test.YtbaninglcafhhaaLeft
import Derived.Deep.CutRange
import Derived.Deep.CutBlock
import Derived.Deep.MidRow
namespace Go.Proofs.Ytbaninglcafhhaa
open Go.RowKit

theorem spl_whole (vs : List Value) (cs : Array Value) (h : vs.length = cs.size) : spl cs 0 vs = vs.toArray := by
  apply Array.ext'
  rw [spl_list, setAll_eq _ _ _ (by simp; omega)]
  simp [h]
theorem heap_whole {w : World} {g : Nat} {cs : Array Value} {t : TypeId} (vs : List Value) (h : w.heap[g]? = some (.cells cs t (0, 0))) (hl : vs.length = cs.size) : (w.setCells g 0 vs).heap[g]? = some (.cells vs.toArray t (0, 0)) := by
  rw [heap_spl _ _ _ _ h, spl_whole vs cs hl]
/-- What the switch leaves. -/
def SwAt (b9 : Nat) (w0 : World) (v8 v11 : Value) (wd : World) : Prop := ∃ (b : Int) (ex : List Ent) (dx : List Inv) (Ax : Option Addr) (cx : Nat) (Bx : Option Addr) (dc : Nat) (Aw : Option Addr) (cw : Nat) (Bw : Option Addr) (dw bx : Nat),
  v8 = .int .i64 b ∧ v11 = .int .i64 b ∧ wd.heap[b9]? = some (.cells #[.slice Ax ex.length cx, .slice Bx dx.length dc] tlbT (0, 0)) ∧ wd.heap[b9 + 1]? = some (.cells #[.slice Aw ex.length cw, .slice Bw dx.length dw] tlbT (0, 0)) ∧
  Own wd bx entT 14 Ent.cells ex Ax cx ∧ Own wd bx invT 4 Inv.cells dx Bx dc ∧ (∀ W, Below bx wd W → TlAt W ⟨Aw, cw, ex, Bw, dw, dx⟩) ∧ b9 + 2 ≤ bx ∧ bx ≤ wd.heap.size ∧ ex.length ≤ 9 ∧ dx.length ≤ 9 ∧ Below b9 w0 wd
theorem sw_none {b9 : Nat} {w0 wd : World} {b : Int} (h9 : wd.heap[b9]? = some (.cells #[.slice none 0 0, .slice none 0 0] tlbT (0, 0))) (h10 : wd.heap[b9 + 1]? = some (.cells #[.slice none 0 0, .slice none 0 0] tlbT (0, 0))) (hb : Below b9 w0 wd) : SwAt b9 w0 (.int .i64 b) (.int .i64 b) wd :=
  ⟨b, [], [], none, 0, none, 0, none, 0, none, 0, wd.heap.size, rfl, rfl, h9, h10, World.ownsRow_nil _ _ _ _, World.ownsRow_nil _ _ _ _, fun _ _ => ⟨by simp, Nat.zero_le _, At.nil, by simp, Nat.zero_le _, At.nil⟩, by have := heap_lt h10; omega, Nat.le_refl _, by simp, by simp, hb⟩
theorem num_out {n : Int} {k : Nat} (h : numOk n ((k : Int) - 1) = false) : n < 0 ∨ (k : Int) ≤ n := by
  unfold numOk at h
  simp at h
  omega
theorem num_in {n : Int} {k : Nat} (h : numOk n ((k : Int) - 1) = true) : ∃ m : Nat, n = m ∧ m < k := by
  unfold numOk at h
  simp at h
  exact ⟨n.toNat, by omega, by omega⟩
/-- Both rows are there: the page's first, then the program's. -/
theorem sw_some {b9 : Nat} {w0 w6 wY w7 : World} {ex : List Ent} {dx : List Inv} {Aw Bw Ax Bx : Option Addr} {cw dw cx dc k1 k2 : Nat} (h9 : b9 < w0.heap.size) (h10 : b9 + 1 < w0.heap.size)
    (hx : w0.heap[b9]? = some (.cells #[.slice none 0 0, .slice none 0 0] tlbT (0, 0))) (hy : w0.heap[b9 + 1]? = some (.cells #[.slice none 0 0, .slice none 0 0] tlbT (0, 0)))
    (hb6 : Below w0.heap.size w0 w6) (hY : wY = (w6.setCell ⟨b9 + 1, 0, none⟩ (.slice Aw ex.length cw)).setCell ⟨b9 + 1, 1, none⟩ (.slice Bw dx.length dw)) (hb7 : Below wY.heap.size wY w7)
    (how : Own w6 (w0.heap.size + k1) entT 14 Ent.cells ex Aw cw) (hiw : Own w6 (w0.heap.size + k1) invT 4 Inv.cells dx Bw dw)
    (hox : Own w7 (wY.heap.size + k2) entT 14 Ent.cells ex Ax cx) (hix : Own w7 (wY.heap.size + k2) invT 4 Inv.cells dx Bx dc) (hl1 : ex.length ≤ 8) (hl2 : dx.length ≤ 8) :
    SwAt b9 w0 (.int .i64 0) (.int .i64 0) ((w7.setCell ⟨b9, 0, none⟩ (.slice Ax ex.length cx)).setCell ⟨b9, 1, none⟩ (.slice Bx dx.length dc)) := by
  have hYs : wY.heap.size = w6.heap.size := by rw [hY]; simp
  rw [hYs] at hox hix hb7
  subst hY
  have h6 := hb6.size
  have h7 := hb7.size
  have hz6 := (hb6.block _ h9).trans hx
  have hz6' := (hb6.block _ h10).trans hy
  have how7 : Own w7 (w0.heap.size + k1) entT 14 Ent.cells ex Aw cw := ((how.set_far (by simp; omega) _).set_far (by simp; omega) _).below hb7 (by simp)
  have hiw7 : Own w7 (w0.heap.size + k1) invT 4 Inv.cells dx Bw dw := ((hiw.set_far (by simp; omega) _).set_far (by simp; omega) _).below hb7 (by simp)
  have how8 := (how7.set_far (p := ⟨b9, 0, none⟩) (by simp; omega) (.slice Ax ex.length cx)).set_far (p := ⟨b9, 1, none⟩) (by simp; omega) (.slice Bx dx.length dc)
  have hiw8 := (hiw7.set_far (p := ⟨b9, 0, none⟩) (by simp; omega) (.slice Ax ex.length cx)).set_far (p := ⟨b9, 1, none⟩) (by simp; omega) (.slice Bx dx.length dc)
  refine ⟨0, ex, dx, Ax, cx, Bx, dc, Aw, cw, Bw, dw, w6.heap.size, rfl, rfl, ?_, ?_, ?_, ?_, ?_, by omega, by simp; omega, by omega, by omega, ?_⟩
  · refine heap_set_same (heap_set_same (cs := #[.slice none 0 0, .slice none 0 0]) ?_ 0 _) 1 _
    exact (hb7.block _ (by omega)).trans ((heap_set_other (by simp) _).trans ((heap_set_other (by simp) _).trans hz6))
  · refine (heap_set_other (by simp) _).trans ((heap_set_other (by simp) _).trans ((hb7.block _ (by omega)).trans ?_))
    exact heap_set_same (heap_set_same hz6' 0 _) 1 _
  · exact ((hox.mono (Nat.le_add_right _ _)).set_far (by simp; omega) _).set_far (by simp; omega) _
  · exact ((hix.mono (Nat.le_add_right _ _)).set_far (by simp; omega) _).set_far (by simp; omega) _
  · intro W hb
    exact TlAt.of_own (how8.keep2 fun p hp => hb.block _ (how.block_ hp).2) (hiw8.keep2 fun p hp => hb.block _ (hiw.block_ hp).2) (by omega) (by omega)
  · refine Below.setCell (Below.setCell (below_via ?_ hb7 (by omega)) (by simp) _) (by simp) _
    exact Below.setCell (Below.setCell (hb6.mono (by omega)) (by simp) _) (by simp) _
theorem SwAt.from {b9 : Nat} {w0 w1 : World} {v8 v11 : Value} {wd : World} (h : SwAt b9 w1 v8 v11 wd) (hb : Below b9 w0 w1) : SwAt b9 w0 v8 v11 wd := by
  obtain ⟨b, ex, dx, Ax, cx, Bx, dc, Aw, cw, Bw, dw, bx, e1, e2, h1, h2, h3, h4, h5, h6, h7, h8, h9, h10⟩ := h
  exact ⟨b, ex, dx, Ax, cx, Bx, dc, Aw, cw, Bw, dw, bx, e1, e2, h1, h2, h3, h4, h5, h6, h7, h8, h9, below_via hb h10 (by omega)⟩
/-- What a search finds: nothing, or one that is there. -/
def Fnd (es : List Ent) (r : Ent) (x ix : Int) : Prop := (ix = -1 ∧ r = noEnt ∧ x = 3) ∨ ∃ (m : Nat) (h : m < es.length), ix = m ∧ es[m] = r ∧ x = 0
theorem fnd_of (es : List Ent) (p : Ent → Bool) : Fnd es (foundR es p) (foundX es p) (idx p es) := by
  rcases idx_cases p es with ⟨h1, h2⟩ | ⟨k, hk, h1, h2, h3⟩
  · obtain ⟨e1, e2⟩ := found_none (k := es.length) (by rw [List.take_length]; exact h2) (Nat.le_refl _)
    exact .inl ⟨h1, e1, e2⟩
  · obtain ⟨e1, e2⟩ := found_hit h3 hk rfl h2
    exact .inr ⟨k, hk, h1, e1.symm, e2⟩
theorem whole_all (es : List Ent) (ds : List Inv) (Ai A : Option Addr) (ci c : Nat) (Bi B : Option Addr) (di d : Nat) (vm asd pg acc : Int) : ∃ (r : Ent) (x ix : Int),
    (∀ W, TlAt W ⟨Ai, ci, es, Bi, di, ds⟩ → Calls Try.prog 55 #[.agg #[.slice Ai es.length ci, .slice Bi ds.length di], .int .i64 vm, .int .i64 asd, .int .i64 pg, .int .i64 acc] W fun y w' => y = .returned (.tuple #[.agg r.cells.toArray, .int .i64 x]) ∧ Below W.heap.size W w') ∧
    ((tlbOk es ds && (((numOk vm 15 && numOk pg 4095) && numOk asd 15) && accOk acc)) = true → ∀ W, TlAt W ⟨A, c, es, B, d, ds⟩ → Calls Try.prog 58 #[.agg #[.slice A es.length c, .slice B ds.length d], .int .i64 vm, .int .i64 asd, .int .i64 pg, .int .i64 acc] W fun y w' => y = .returned (.int .i64 ix) ∧ Below W.heap.size W w') ∧
    (((tlbOk es ds && (((numOk vm 15 && numOk pg 4095) && numOk asd 15) && accOk acc)) = false ∧ r = noEnt ∧ x = 1) ∨ ((tlbOk es ds && (((numOk vm 15 && numOk pg 4095) && numOk asd 15) && accOk acc)) = true ∧ Fnd es r x ix)) := by
  have hc : lookOk ⟨Ai, ci, es, Bi, di, ds⟩ vm asd pg acc = (tlbOk es ds && (((numOk vm 15 && numOk pg 4095) && numOk asd 15) && accOk acc)) := by
    unfold lookOk
    cases tlbOk es ds <;> cases accOk acc <;> cases numOk vm 15 <;> cases numOk asd 15 <;> cases numOk pg 4095 <;> rfl
  cases hb : (tlbOk es ds && (((numOk vm 15 && numOk pg 4095) && numOk asd 15) && accOk acc))
  · exact ⟨noEnt, 1, 0, fun W h => Whole_no ⟨Ai, ci, es, Bi, di, ds⟩ vm asd pg acc W h (hc.trans hb), fun h => Bool.noConfusion h, .inl ⟨rfl, rfl, rfl⟩⟩
  · refine ⟨_, _, _, fun W h => Whole_yes ⟨Ai, ci, es, Bi, di, ds⟩ vm asd pg acc W h (hc.trans hb), fun _ W h => rWhole_any ⟨A, c, es, B, d, ds⟩ vm asd pg acc W h (fun e he => ?_), .inr ⟨rfl, fnd_of es _⟩⟩
    simp only [Bool.and_eq_true] at hb
    exact (tlbOk_ents hb.1).2.2.1 e he
theorem mid_all (es : List Ent) (ds : List Inv) (Ai A : Option Addr) (ci c : Nat) (Bi B : Option Addr) (di d : Nat) (vm pg acc : Int) : ∃ (r : Ent) (x ix : Int),
    (∀ W, TlAt W ⟨Ai, ci, es, Bi, di, ds⟩ → Calls Try.prog 31 #[.agg #[.slice Ai es.length ci, .slice Bi ds.length di], .int .i64 vm, .int .i64 pg, .int .i64 acc] W fun y w' => y = .returned (.tuple #[.agg r.cells.toArray, .int .i64 x]) ∧ Below W.heap.size W w') ∧
    ((tlbOk es ds && ((numOk vm 15 && numOk pg 4095) && accOk acc)) = true → ∀ W, TlAt W ⟨A, c, es, B, d, ds⟩ → Calls Try.prog 59 #[.agg #[.slice A es.length c, .slice B ds.length d], .int .i64 vm, .int .i64 pg, .int .i64 acc] W fun y w' => y = .returned (.int .i64 ix) ∧ Below W.heap.size W w') ∧
    (((tlbOk es ds && ((numOk vm 15 && numOk pg 4095) && accOk acc)) = false ∧ r = noEnt ∧ x = 1) ∨ ((tlbOk es ds && ((numOk vm 15 && numOk pg 4095) && accOk acc)) = true ∧ Fnd es r x ix)) := by
  have hc : lookOk ⟨Ai, ci, es, Bi, di, ds⟩ vm 0 pg acc = (tlbOk es ds && ((numOk vm 15 && numOk pg 4095) && accOk acc)) := by
    unfold lookOk
    rw [show numOk 0 15 = true by decide]
    cases tlbOk es ds <;> cases accOk acc <;> cases numOk vm 15 <;> cases numOk pg 4095 <;> rfl
  cases hb : (tlbOk es ds && ((numOk vm 15 && numOk pg 4095) && accOk acc))
  · exact ⟨noEnt, 1, 0, fun W h => Mid_no ⟨Ai, ci, es, Bi, di, ds⟩ vm pg acc W h (hc.trans hb), fun h => Bool.noConfusion h, .inl ⟨rfl, rfl, rfl⟩⟩
  · refine ⟨_, _, _, fun W h => Mid_yes ⟨Ai, ci, es, Bi, di, ds⟩ vm pg acc W h (hc.trans hb), fun _ W h => rMid_any ⟨A, c, es, B, d, ds⟩ vm pg acc W h (fun e he => ?_), .inr ⟨rfl, fnd_of es _⟩⟩
    simp only [Bool.and_eq_true] at hb
    exact (tlbOk_ents hb.1).2.2.1 e he
theorem walk_all (es : List Ent) (ds : List Inv) (Ai A : Option Addr) (ci c : Nat) (Bi B : Option Addr) (di d : Nat) (vm asd pg : Int) : ∃ (r : Ent) (x ix : Int),
    (∀ W, TlAt W ⟨Ai, ci, es, Bi, di, ds⟩ → Calls Try.prog 57 #[.agg #[.slice Ai es.length ci, .slice Bi ds.length di], .int .i64 vm, .int .i64 asd, .int .i64 pg] W fun y w' => y = .returned (.tuple #[.agg r.cells.toArray, .int .i64 x]) ∧ Below W.heap.size W w') ∧
    ((tlbOk es ds && ((numOk vm 15 && numOk pg 4095) && numOk asd 15)) = true → ∀ W, TlAt W ⟨A, c, es, B, d, ds⟩ → Calls Try.prog 60 #[.agg #[.slice A es.length c, .slice B ds.length d], .int .i64 vm, .int .i64 asd, .int .i64 pg] W fun y w' => y = .returned (.int .i64 ix) ∧ Below W.heap.size W w') ∧
    (((tlbOk es ds && ((numOk vm 15 && numOk pg 4095) && numOk asd 15)) = false ∧ r = noEnt ∧ x = 1) ∨ ((tlbOk es ds && ((numOk vm 15 && numOk pg 4095) && numOk asd 15)) = true ∧ Fnd es r x ix)) := by
  have hc : walkOk ⟨Ai, ci, es, Bi, di, ds⟩ vm asd pg = (tlbOk es ds && ((numOk vm 15 && numOk pg 4095) && numOk asd 15)) := by
    unfold walkOk
    cases tlbOk es ds <;> cases numOk vm 15 <;> cases numOk asd 15 <;> cases numOk pg 4095 <;> rfl
  cases hb : (tlbOk es ds && ((numOk vm 15 && numOk pg 4095) && numOk asd 15))
  · exact ⟨noEnt, 1, 0, fun W h => Walk_no ⟨Ai, ci, es, Bi, di, ds⟩ vm asd pg W h (hc.trans hb), fun h => Bool.noConfusion h, .inl ⟨rfl, rfl, rfl⟩⟩
  · have hb2 := hb
    simp only [Bool.and_eq_true] at hb2
    have hok := (tlbOk_ents hb2.1).2.2.1
    have hpg : 0 ≤ pg ∧ pg ≤ 4095 := by
      have := hb2.2.1.2
      unfold numOk at this
      simpa using this
    refine ⟨_, _, _, fun W h => Walk_yes ⟨Ai, ci, es, Bi, di, ds⟩ vm asd pg W h (hc.trans hb), fun _ W h => rWalk_any ⟨A, c, es, B, d, ds⟩ vm asd pg W h hok hpg, .inr ⟨rfl, ?_⟩⟩
    have hlv : ∀ e ∈ es, (fun e => ofE e 3 vm asd pg) e = true → 1 ≤ e.level := fun e he hp => by
      have h1 := (entOk_parts (hok e he)).2.2.1
      dsimp only at hp
      unfold ofE at hp
      simp only [Bool.and_eq_true, beq_iff_eq] at hp
      exact (h1 hp.1).1
    rcases place_best es _ hlv es.length with ⟨h1, h2⟩ | ⟨j, h1, h2, h3, h4⟩
    · refine .inl ⟨?_, h2, ?_⟩
      · show atN es _ es.length = -1
        unfold atN; rw [h1]
      · show bestX es _ = 3
        unfold bestX bestE; rw [h2]; rfl
    · refine .inr ⟨j, h2, ?_, ?_, ?_⟩
      · show atN es _ es.length = j
        unfold atN; rw [h1]
      · rw [List.getElem?_eq_getElem h2] at h3
        exact Option.some.inj h3
      · show bestX es _ = 0
        unfold bestX bestE; rw [if_neg (by omega)]
theorem there_row {w : World} {g : Nat} (cs : Array Value) (T : TypeId) (h : w.heap[g]? = some (.cells cs T (0, 0))) : w.there g 0 cs.size := fun j hj => by
  rw [Nat.zero_add]
  refine ⟨?_, frozen_of_row _ _ j _ _ h⟩
  rw [cell_of_row _ _ j _ _ _ h, Array.getElem?_eq_getElem hj]
  rfl
theorem range_row {w : World} {g : Nat} {T : TypeId} (cs : List Value) (h : w.heap[g]? = some (.cells cs.toArray T (0, 0))) : w.rangeAt g 0 cs := fun j v hv => by
  rw [Nat.zero_add, cell_of_row _ _ j _ _ _ h, List.getElem?_toArray]
  exact hv
theorem upon_load_mid {P : Program} {op : Oper} {a : Go.Act} {w : World} {R : Value → World → Prop} (ty : TypeId) (x : Operand) (ho : op.op = .load ty x)
    (b o : Nat) (hx : a.eval x = .pointer (some ⟨b, o, none⟩)) (cs : List Value) (d : TypeDesc) (hc : w.rangeAt b o cs)
    (hu : P.underlying ty = some d) (hd : d.isRow = true) (hi : (P.info? ty).map (·.size) = some cs.length)
    (h : R (.agg cs.toArray) w) : UponC P R ((execOp a.eval op).run P w) := by
  unfold execOp
  simp only [ho, hx, Instr.loadAt, Instr.sureAddr, Sem.run_bind, Sem.run_pure, Result.andThen_ok, run_loadVar_mid w b o ty cs d hc hu hd hi]
  exact h
theorem upon_store_mid {P : Program} {op : Oper} {a : Go.Act} {w : World} {R : Value → World → Prop} (ty : TypeId) (x y : Operand) (ho : op.op = .store ty x y)
    (b o : Nat) (cells : Array Value) (hx : a.eval x = .pointer (some ⟨b, o, none⟩)) (hy : a.eval y = .agg cells)
    (ht : w.there b o cells.size) (hi : (P.info? ty).map (·.size) = some cells.size) (h1 : cells.all (·.oneCell') = true)
    (h : R undef (w.setCells b o cells.toList)) : UponC P R ((execOp a.eval op).run P w) := by
  unfold execOp
  simp only [ho, hx, hy, Instr.storeAt, Instr.sureAddr, Sem.run_bind, Sem.run_pure, Result.andThen_ok, run_storeVar_mid w b o ty cells ht hi h1]
  exact h
theorem range_below {w w' : World} {B b o : Nat} {cs : List Value} (h : w.rangeAt b o cs) (hb : Below B w w') (hl : b < B) : w'.rangeAt b o cs := fun j v hv => (hb.cell (p := ⟨b, o + j, none⟩) hl).trans (h j v hv)
theorem EqTLB_two (es : List Ent) (ds : List Inv) (A : Option Addr) (c : Nat) (B : Option Addr) (d : Nat) (A' : Option Addr) (c' : Nat) (B' : Option Addr) (d' : Nat) (w : World) (h1 : TlAt w ⟨A, c, es, B, d, ds⟩) (h2 : TlAt w ⟨A', c', es, B', d', ds⟩) :
    Calls Try.prog 39 #[.agg #[.slice A es.length c, .slice B ds.length d], .agg #[.slice A' es.length c', .slice B' ds.length d']] w fun e w' => e = .returned (.bool true) ∧ Below w.heap.size w w' :=
  EqTLB_same ⟨A, c, es, B, d, ds⟩ ⟨A', c', es, B', d', ds⟩ w h1 h2 rfl rfl
theorem gk_lt {k g : Nat} (h : g = 20 - k) (hk : k < 20) : 20 - (k + 1) < g := by omega
theorem tlbOk_fill2 {es : List Ent} {ds : List Inv} {e : Ent} (h : tlbOk es ds = true) (he : entOk e = true) : tlbOk (fillE es e) ds = true := by
  unfold fillE
  by_cases hg : (decide (es.length < 8) && !(es.any (entEq e))) = true
  · rw [if_pos hg]
    simp only [Bool.and_eq_true, decide_eq_true_eq, Bool.not_eq_true', List.any_eq_false] at hg
    rw [tlbOk_iff] at h ⊢
    obtain ⟨h1, h2, h3, h4, h5⟩ := h
    refine ⟨by simp; omega, h2, fun x hx => ?_, ?_, h5⟩
    · rcases List.mem_append.1 hx with hx | hx
      · exact h3 x hx
      · rw [List.mem_singleton] at hx; rw [hx]; exact he
    · rw [List.nodup_append]
      refine ⟨h4, by simp, fun x hx y hy => ?_⟩
      rw [List.mem_singleton] at hy
      subst hy
      intro hxy
      subst hxy
      exact hg.2 x hx (entEq_refl x)
  · rw [if_neg hg]; exact h
theorem there_new (w : World) (cs : Array Value) (T : TypeId) : (w.alloc (.cells cs T)).there w.heap.size 0 cs.size := fun j hj => by
  rw [Nat.zero_add]
  refine ⟨?_, frozen_of_row _ _ j _ _ (heap_new _ _)⟩
  rw [cell_of_row _ _ j _ _ _ (heap_new _ _), Array.getElem?_eq_getElem hj]
  rfl
structure ExAt (b3 : Nat) (wr : World) : Prop where
  at_ : ∃ (es : List Ent) (ds : List Inv) (A : Option Addr) (c : Nat) (B : Option Addr) (d : Nat), wr.heap[b3]? = some (.cells #[.slice A es.length c, .slice B ds.length d] tlbT (0, 0)) ∧ TlAt wr ⟨A, c, es, B, d, ds⟩ ∧ es.length ≤ 200 ∧ ds.length ≤ 200


end Go.Proofs.Ytbaninglcafhhaa
