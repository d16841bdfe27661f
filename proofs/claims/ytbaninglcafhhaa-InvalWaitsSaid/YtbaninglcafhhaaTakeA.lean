/-
  Whether something takes an entry away: the program's answer. Conditions: both may be.
-/
import Derived.Test.YtbaninglcafhhaaEntE
namespace Go.Proofs.Ytbaninglcafhhaa
open Go.RowKit

def stageE (e : Ent) : Bool := e.kind == 1 || e.kind == 3
def atE (i : Inv) (e : Ent) : Bool := e.page == pageOf e i.page
def takesE (i : Inv) (e : Ent) : Bool :=
  if i.kind = 1 then true
  else (i.vmid == e.vmid) &&
    (if i.kind = 2 then true
    else if i.kind = 3 then stageE e
    else if i.kind = 4 then stageE e && (!e.all && e.asid == i.asid)
    else if i.kind = 5 then stageE e && (atE i e && (e.all || e.asid == i.asid))
    else e.kind == 2 && atE i e)

theorem stage_any (e : Ent) (w : World) : Calls Try.prog 87 #[.agg e.cells.toArray] w fun y w' => y = .returned (.bool (stageE e)) ∧ Below w.heap.size w w' := by
  obtain ⟨ke, vme, ase, al, pe, level, frame, mid, r, dw, x, af, ng, soft⟩ := e
  have HR := Lib.hid (show stageE ⟨ke, vme, ase, al, pe, level, frame, mid, r, dw, x, af, ng, soft⟩ = (ke == 1 || ke == 3) from rfl)
  dsimp only [Ent.cells]
  rcases Bool.eq_false_or_eq_true (ke == 1) with q0 | q0
  · go_enter Try.func87, Try.ntmps87
    go_wp2
    go_ret
    exact ⟨ret_bool (by rw [HR.out] <;> simp [*]), (by repeat' (first | (with_reducible exact Below.refl _ _) | (with_reducible (refine Below.setCell ?_ ?_ _)) | (with_reducible (refine Below.alloc ?_ ?_ _)) | (with_reducible (refine Below.drew ?_)) | omega | (simp; done) | (simp; omega)))⟩
  go_enter Try.func87, Try.ntmps87
  go_wp2
  go_ret
  exact ⟨ret_bool (by rw [HR.out] <;> simp [*]), (by repeat' (first | (with_reducible exact Below.refl _ _) | (with_reducible (refine Below.setCell ?_ ?_ _)) | (with_reducible (refine Below.alloc ?_ ?_ _)) | (with_reducible (refine Below.drew ?_)) | omega | (simp; done) | (simp; omega)))⟩

set_option maxHeartbeats 4000000 in
theorem ipage_walk (ki vmi asi pgi : Int) (vme ase : Int) (al : Bool) (pe level frame mid : Int) (r dw x af ng : Bool) (soft : Int) (w : World) (h0 : 0 ≤ pgi) (h1 : pgi ≤ 4095) (h2 : 1 ≤ level) (h3 : level ≤ 3) :
    Calls Try.prog 88 #[.agg #[.int .i64 ki, .int .i64 vmi, .int .i64 asi, .int .i64 pgi], .agg #[.int .i64 3, .int .i64 vme, .int .i64 ase, .bool al, .int .i64 pe, .int .i64 level, .int .i64 frame, .int .i64 mid, .bool r, .bool dw, .bool x, .bool af, .bool ng, .int .i64 soft]] w fun y w' => y = .returned (.bool (atE ⟨ki, vmi, asi, pgi⟩ ⟨3, vme, ase, al, pe, level, frame, mid, r, dw, x, af, ng, soft⟩)) ∧ Below w.heap.size w w' := by
  obtain ⟨a1, a2, a3⟩ := cut_and h0 h1
  have HR := Lib.hid (show atE ⟨ki, vmi, asi, pgi⟩ ⟨3, vme, ase, al, pe, level, frame, mid, r, dw, x, af, ng, soft⟩ = (pe == pgi - pgi % spanOf level) from rfl)
  rcases span_cases h2 h3 with ⟨rfl, e⟩ | ⟨rfl, e⟩ | ⟨rfl, e⟩
  all_goals
    rw [e] at HR
    clear e h2 h3
    go_enter Try.func88, Try.ntmps88
    go_wp2
    go_ret
    exact ⟨ret_bool (by rw [HR.out] <;> simp [*]), (by repeat' (first | (with_reducible exact Below.refl _ _) | (with_reducible (refine Below.setCell ?_ ?_ _)) | (with_reducible (refine Below.alloc ?_ ?_ _)) | (with_reducible (refine Below.drew ?_)) | omega | (simp; done) | (simp; omega)))⟩

set_option maxHeartbeats 4000000 in
theorem ipage_else (ki vmi asi pgi : Int) (ke vme ase : Int) (al : Bool) (pe level frame mid : Int) (r dw x af ng : Bool) (soft : Int) (w : World) (hk : ke ≠ 3) :
    Calls Try.prog 88 #[.agg #[.int .i64 ki, .int .i64 vmi, .int .i64 asi, .int .i64 pgi], .agg #[.int .i64 ke, .int .i64 vme, .int .i64 ase, .bool al, .int .i64 pe, .int .i64 level, .int .i64 frame, .int .i64 mid, .bool r, .bool dw, .bool x, .bool af, .bool ng, .int .i64 soft]] w fun y w' => y = .returned (.bool (atE ⟨ki, vmi, asi, pgi⟩ ⟨ke, vme, ase, al, pe, level, frame, mid, r, dw, x, af, ng, soft⟩)) ∧ Below w.heap.size w w' := by
  have HR := Lib.hid (show atE ⟨ki, vmi, asi, pgi⟩ ⟨ke, vme, ase, al, pe, level, frame, mid, r, dw, x, af, ng, soft⟩ = (pe == pgi) by unfold atE pageOf; dsimp only; rw [if_neg hk])
  have k3 : (ke == 3) = false := by simpa using hk
  clear hk
  go_enter Try.func88, Try.ntmps88
  go_wp2
  go_ret
  exact ⟨ret_bool (by rw [HR.out]), (by repeat' (first | (with_reducible exact Below.refl _ _) | (with_reducible (refine Below.setCell ?_ ?_ _)) | (with_reducible (refine Below.alloc ?_ ?_ _)) | (with_reducible (refine Below.drew ?_)) | omega | (simp; done) | (simp; omega)))⟩

theorem ipage_any (i : Inv) (e : Ent) (w : World) (h : entOk e = true) (h0 : 0 ≤ i.page) (h1 : i.page ≤ 4095) :
    Calls Try.prog 88 #[.agg i.cells.toArray, .agg e.cells.toArray] w fun y w' => y = .returned (.bool (atE i e)) ∧ Below w.heap.size w w' := by
  obtain ⟨_, _, hl, _⟩ := entOk_parts h
  clear h
  obtain ⟨ke, vme, ase, al, pe, level, frame, mid, r, dw, x, af, ng, soft⟩ := e
  obtain ⟨ki, vmi, asi, pgi⟩ := i
  dsimp only at hl h0 h1
  by_cases k3 : ke = 3
  · subst k3
    exact ipage_walk ki vmi asi pgi vme ase al pe level frame mid r dw x af ng soft w h0 h1 (hl rfl).1 (hl rfl).2
  · exact ipage_else ki vmi asi pgi ke vme ase al pe level frame mid r dw x af ng soft w k3

set_option maxRecDepth 100000 in
set_option maxHeartbeats 4000000 in
theorem takes_one (vmi asi pgi : Int) (ke vme ase : Int) (al : Bool) (pe level frame mid : Int) (r dw x af ng : Bool) (soft : Int) (w : World) (st at_ : Bool) (_hst : stageE ⟨ke, vme, ase, al, pe, level, frame, mid, r, dw, x, af, ng, soft⟩ = st) (_hat : atE ⟨1, vmi, asi, pgi⟩ ⟨ke, vme, ase, al, pe, level, frame, mid, r, dw, x, af, ng, soft⟩ = at_)
    (_HST : Hid (∀ W, Calls Try.prog 87 #[.agg #[.int .i64 ke, .int .i64 vme, .int .i64 ase, .bool al, .int .i64 pe, .int .i64 level, .int .i64 frame, .int .i64 mid, .bool r, .bool dw, .bool x, .bool af, .bool ng, .int .i64 soft]] W fun y w' => y = .returned (.bool st) ∧ Below W.heap.size W w'))
    (_HPA : Hid (∀ W, Calls Try.prog 88 #[.agg #[.int .i64 1, .int .i64 vmi, .int .i64 asi, .int .i64 pgi], .agg #[.int .i64 ke, .int .i64 vme, .int .i64 ase, .bool al, .int .i64 pe, .int .i64 level, .int .i64 frame, .int .i64 mid, .bool r, .bool dw, .bool x, .bool af, .bool ng, .int .i64 soft]] W fun y w' => y = .returned (.bool at_) ∧ Below W.heap.size W w')) :
    Calls Try.prog 66 #[.agg #[.int .i64 1, .int .i64 vmi, .int .i64 asi, .int .i64 pgi], .agg #[.int .i64 ke, .int .i64 vme, .int .i64 ase, .bool al, .int .i64 pe, .int .i64 level, .int .i64 frame, .int .i64 mid, .bool r, .bool dw, .bool x, .bool af, .bool ng, .int .i64 soft]] w fun y w' => y = .returned (.bool (takesE ⟨1, vmi, asi, pgi⟩ ⟨ke, vme, ase, al, pe, level, frame, mid, r, dw, x, af, ng, soft⟩)) ∧ Below w.heap.size w w' := by
  have HR := Lib.hid (show takesE ⟨1, vmi, asi, pgi⟩ ⟨ke, vme, ase, al, pe, level, frame, mid, r, dw, x, af, ng, soft⟩ = true from rfl)
  clear _hst _hat
  go_enter Try.func66, Try.ntmps66
  go_wp2
  go_ret
  exact ⟨ret_bool (by rw [HR.out] <;> simp [*]), (by repeat' (first | (with_reducible exact Below.refl _ _) | (with_reducible (refine Below.setCell ?_ ?_ _)) | (with_reducible (refine Below.alloc ?_ ?_ _)) | (with_reducible (refine Below.drew ?_)) | omega | (simp; done) | (simp; omega)))⟩

set_option maxRecDepth 100000 in
set_option maxHeartbeats 4000000 in
theorem takes_two (vmi asi pgi : Int) (ke vme ase : Int) (al : Bool) (pe level frame mid : Int) (r dw x af ng : Bool) (soft : Int) (w : World) (st at_ : Bool) (_hst : stageE ⟨ke, vme, ase, al, pe, level, frame, mid, r, dw, x, af, ng, soft⟩ = st) (_hat : atE ⟨2, vmi, asi, pgi⟩ ⟨ke, vme, ase, al, pe, level, frame, mid, r, dw, x, af, ng, soft⟩ = at_)
    (_HST : Hid (∀ W, Calls Try.prog 87 #[.agg #[.int .i64 ke, .int .i64 vme, .int .i64 ase, .bool al, .int .i64 pe, .int .i64 level, .int .i64 frame, .int .i64 mid, .bool r, .bool dw, .bool x, .bool af, .bool ng, .int .i64 soft]] W fun y w' => y = .returned (.bool st) ∧ Below W.heap.size W w'))
    (_HPA : Hid (∀ W, Calls Try.prog 88 #[.agg #[.int .i64 2, .int .i64 vmi, .int .i64 asi, .int .i64 pgi], .agg #[.int .i64 ke, .int .i64 vme, .int .i64 ase, .bool al, .int .i64 pe, .int .i64 level, .int .i64 frame, .int .i64 mid, .bool r, .bool dw, .bool x, .bool af, .bool ng, .int .i64 soft]] W fun y w' => y = .returned (.bool at_) ∧ Below W.heap.size W w')) :
    Calls Try.prog 66 #[.agg #[.int .i64 2, .int .i64 vmi, .int .i64 asi, .int .i64 pgi], .agg #[.int .i64 ke, .int .i64 vme, .int .i64 ase, .bool al, .int .i64 pe, .int .i64 level, .int .i64 frame, .int .i64 mid, .bool r, .bool dw, .bool x, .bool af, .bool ng, .int .i64 soft]] w fun y w' => y = .returned (.bool (takesE ⟨2, vmi, asi, pgi⟩ ⟨ke, vme, ase, al, pe, level, frame, mid, r, dw, x, af, ng, soft⟩)) ∧ Below w.heap.size w w' := by
  have HR := Lib.hid (show takesE ⟨2, vmi, asi, pgi⟩ ⟨ke, vme, ase, al, pe, level, frame, mid, r, dw, x, af, ng, soft⟩ = (vmi == vme && true) from rfl)
  clear _hst _hat
  rcases (Bool.eq_false_or_eq_true (vmi == vme)).symm with q0 | q0
  · have vm2 : (vmi != vme) = true := by unfold bne; rw [q0]; rfl
    go_enter Try.func66, Try.ntmps66
    go_wp2
    go_ret
    exact ⟨ret_bool (by rw [HR.out] <;> simp [*]), (by repeat' (first | (with_reducible exact Below.refl _ _) | (with_reducible (refine Below.setCell ?_ ?_ _)) | (with_reducible (refine Below.alloc ?_ ?_ _)) | (with_reducible (refine Below.drew ?_)) | omega | (simp; done) | (simp; omega)))⟩
  have vm2 : (vmi != vme) = false := by unfold bne; rw [q0]; rfl
  go_enter Try.func66, Try.ntmps66
  go_wp2
  go_ret
  exact ⟨ret_bool (by rw [HR.out] <;> simp [*]), (by repeat' (first | (with_reducible exact Below.refl _ _) | (with_reducible (refine Below.setCell ?_ ?_ _)) | (with_reducible (refine Below.alloc ?_ ?_ _)) | (with_reducible (refine Below.drew ?_)) | omega | (simp; done) | (simp; omega)))⟩

set_option maxRecDepth 100000 in
set_option maxHeartbeats 4000000 in
theorem takes_three (vmi asi pgi : Int) (ke vme ase : Int) (al : Bool) (pe level frame mid : Int) (r dw x af ng : Bool) (soft : Int) (w : World) (st at_ : Bool) (hst : stageE ⟨ke, vme, ase, al, pe, level, frame, mid, r, dw, x, af, ng, soft⟩ = st) (_hat : atE ⟨3, vmi, asi, pgi⟩ ⟨ke, vme, ase, al, pe, level, frame, mid, r, dw, x, af, ng, soft⟩ = at_)
    (HST : Hid (∀ W, Calls Try.prog 87 #[.agg #[.int .i64 ke, .int .i64 vme, .int .i64 ase, .bool al, .int .i64 pe, .int .i64 level, .int .i64 frame, .int .i64 mid, .bool r, .bool dw, .bool x, .bool af, .bool ng, .int .i64 soft]] W fun y w' => y = .returned (.bool st) ∧ Below W.heap.size W w'))
    (_HPA : Hid (∀ W, Calls Try.prog 88 #[.agg #[.int .i64 3, .int .i64 vmi, .int .i64 asi, .int .i64 pgi], .agg #[.int .i64 ke, .int .i64 vme, .int .i64 ase, .bool al, .int .i64 pe, .int .i64 level, .int .i64 frame, .int .i64 mid, .bool r, .bool dw, .bool x, .bool af, .bool ng, .int .i64 soft]] W fun y w' => y = .returned (.bool at_) ∧ Below W.heap.size W w')) :
    Calls Try.prog 66 #[.agg #[.int .i64 3, .int .i64 vmi, .int .i64 asi, .int .i64 pgi], .agg #[.int .i64 ke, .int .i64 vme, .int .i64 ase, .bool al, .int .i64 pe, .int .i64 level, .int .i64 frame, .int .i64 mid, .bool r, .bool dw, .bool x, .bool af, .bool ng, .int .i64 soft]] w fun y w' => y = .returned (.bool (takesE ⟨3, vmi, asi, pgi⟩ ⟨ke, vme, ase, al, pe, level, frame, mid, r, dw, x, af, ng, soft⟩)) ∧ Below w.heap.size w w' := by
  have HR := Lib.hid (show takesE ⟨3, vmi, asi, pgi⟩ ⟨ke, vme, ase, al, pe, level, frame, mid, r, dw, x, af, ng, soft⟩ = (vmi == vme && st) by rw [← hst]; rfl)
  clear hst _hat
  rcases (Bool.eq_false_or_eq_true (vmi == vme)).symm with q0 | q0
  · have vm2 : (vmi != vme) = true := by unfold bne; rw [q0]; rfl
    go_enter Try.func66, Try.ntmps66
    go_wp2
    go_ret
    exact ⟨ret_bool (by rw [HR.out] <;> simp [*]), (by repeat' (first | (with_reducible exact Below.refl _ _) | (with_reducible (refine Below.setCell ?_ ?_ _)) | (with_reducible (refine Below.alloc ?_ ?_ _)) | (with_reducible (refine Below.drew ?_)) | omega | (simp; done) | (simp; omega)))⟩
  have vm2 : (vmi != vme) = false := by unfold bne; rw [q0]; rfl
  go_enter Try.func66, Try.ntmps66
  go_wp2_with fail
  refine Calls.mono (HST.out _) ?_
  rintro e w1 ⟨rfl, hb1⟩
  have hs1 := hb1.size
  try simp at hs1
  have hc1_0 := fun o => (bcell hb1).1 (w.heap.size) o (by first | omega | (simp; done) | (simp; omega))
  have hf1_0 := fun o => (bcell hb1).2.1 (w.heap.size) o (by first | omega | (simp; done) | (simp; omega))
  have hz1_0 := (bcell hb1).2.2 (w.heap.size) (by first | omega | (simp; done) | (simp; omega))
  have hc1_1 := fun o => (bcell hb1).1 (w.heap.size + 1) o (by first | omega | (simp; done) | (simp; omega))
  have hf1_1 := fun o => (bcell hb1).2.1 (w.heap.size + 1) o (by first | omega | (simp; done) | (simp; omega))
  have hz1_1 := (bcell hb1).2.2 (w.heap.size + 1) (by first | omega | (simp; done) | (simp; omega))
  have HB1 := Lib.hid hb1
  clear hb1
  go_wp2
  go_ret
  exact ⟨ret_bool (by rw [HR.out] <;> simp [*]), (by repeat' (first | (with_reducible exact Below.refl _ _) | (with_reducible (refine Below.setCell ?_ ?_ _)) | (with_reducible (refine Below.alloc ?_ ?_ _)) | (with_reducible (refine Below.drew ?_)) | (with_reducible (refine below_via ?_ HB1.out ?_)) | omega | (simp; done) | (simp; omega)))⟩

set_option maxRecDepth 100000 in
set_option maxHeartbeats 4000000 in
theorem takes_four (vmi asi pgi : Int) (ke vme ase : Int) (al : Bool) (pe level frame mid : Int) (r dw x af ng : Bool) (soft : Int) (w : World) (st at_ : Bool) (hst : stageE ⟨ke, vme, ase, al, pe, level, frame, mid, r, dw, x, af, ng, soft⟩ = st) (_hat : atE ⟨4, vmi, asi, pgi⟩ ⟨ke, vme, ase, al, pe, level, frame, mid, r, dw, x, af, ng, soft⟩ = at_)
    (HST : Hid (∀ W, Calls Try.prog 87 #[.agg #[.int .i64 ke, .int .i64 vme, .int .i64 ase, .bool al, .int .i64 pe, .int .i64 level, .int .i64 frame, .int .i64 mid, .bool r, .bool dw, .bool x, .bool af, .bool ng, .int .i64 soft]] W fun y w' => y = .returned (.bool st) ∧ Below W.heap.size W w'))
    (HPA : Hid (∀ W, Calls Try.prog 88 #[.agg #[.int .i64 4, .int .i64 vmi, .int .i64 asi, .int .i64 pgi], .agg #[.int .i64 ke, .int .i64 vme, .int .i64 ase, .bool al, .int .i64 pe, .int .i64 level, .int .i64 frame, .int .i64 mid, .bool r, .bool dw, .bool x, .bool af, .bool ng, .int .i64 soft]] W fun y w' => y = .returned (.bool at_) ∧ Below W.heap.size W w')) :
    Calls Try.prog 66 #[.agg #[.int .i64 4, .int .i64 vmi, .int .i64 asi, .int .i64 pgi], .agg #[.int .i64 ke, .int .i64 vme, .int .i64 ase, .bool al, .int .i64 pe, .int .i64 level, .int .i64 frame, .int .i64 mid, .bool r, .bool dw, .bool x, .bool af, .bool ng, .int .i64 soft]] w fun y w' => y = .returned (.bool (takesE ⟨4, vmi, asi, pgi⟩ ⟨ke, vme, ase, al, pe, level, frame, mid, r, dw, x, af, ng, soft⟩)) ∧ Below w.heap.size w w' := by
  have HR := Lib.hid (show takesE ⟨4, vmi, asi, pgi⟩ ⟨ke, vme, ase, al, pe, level, frame, mid, r, dw, x, af, ng, soft⟩ = (vmi == vme && (st && (!al && ase == asi))) by rw [← hst]; rfl)
  clear hst _hat
  rcases (Bool.eq_false_or_eq_true (vmi == vme)).symm with q0 | q0
  · have vm2 : (vmi != vme) = true := by unfold bne; rw [q0]; rfl
    go_enter Try.func66, Try.ntmps66
    go_wp2
    go_ret
    exact ⟨ret_bool (by rw [HR.out] <;> simp [*]), (by repeat' (first | (with_reducible exact Below.refl _ _) | (with_reducible (refine Below.setCell ?_ ?_ _)) | (with_reducible (refine Below.alloc ?_ ?_ _)) | (with_reducible (refine Below.drew ?_)) | omega | (simp; done) | (simp; omega)))⟩
  have vm2 : (vmi != vme) = false := by unfold bne; rw [q0]; rfl
  cases st
  · go_enter Try.func66, Try.ntmps66
    go_wp2_with fail
    refine Calls.mono (HST.out _) ?_
    rintro e w1 ⟨rfl, hb1⟩
    have hs1 := hb1.size
    try simp at hs1
    have hc1_0 := fun o => (bcell hb1).1 (w.heap.size) o (by first | omega | (simp; done) | (simp; omega))
    have hf1_0 := fun o => (bcell hb1).2.1 (w.heap.size) o (by first | omega | (simp; done) | (simp; omega))
    have hz1_0 := (bcell hb1).2.2 (w.heap.size) (by first | omega | (simp; done) | (simp; omega))
    have hc1_1 := fun o => (bcell hb1).1 (w.heap.size + 1) o (by first | omega | (simp; done) | (simp; omega))
    have hf1_1 := fun o => (bcell hb1).2.1 (w.heap.size + 1) o (by first | omega | (simp; done) | (simp; omega))
    have hz1_1 := (bcell hb1).2.2 (w.heap.size + 1) (by first | omega | (simp; done) | (simp; omega))
    have HB1 := Lib.hid hb1
    clear hb1
    go_wp2
    go_ret
    exact ⟨ret_bool (by rw [HR.out] <;> simp [*]), (by repeat' (first | (with_reducible exact Below.refl _ _) | (with_reducible (refine Below.setCell ?_ ?_ _)) | (with_reducible (refine Below.alloc ?_ ?_ _)) | (with_reducible (refine Below.drew ?_)) | (with_reducible (refine below_via ?_ HB1.out ?_)) | omega | (simp; done) | (simp; omega)))⟩
  cases al
  · go_enter Try.func66, Try.ntmps66
    go_wp2_with fail
    refine Calls.mono (HST.out _) ?_
    rintro e w1 ⟨rfl, hb1⟩
    have hs1 := hb1.size
    try simp at hs1
    have hc1_0 := fun o => (bcell hb1).1 (w.heap.size) o (by first | omega | (simp; done) | (simp; omega))
    have hf1_0 := fun o => (bcell hb1).2.1 (w.heap.size) o (by first | omega | (simp; done) | (simp; omega))
    have hz1_0 := (bcell hb1).2.2 (w.heap.size) (by first | omega | (simp; done) | (simp; omega))
    have hc1_1 := fun o => (bcell hb1).1 (w.heap.size + 1) o (by first | omega | (simp; done) | (simp; omega))
    have hf1_1 := fun o => (bcell hb1).2.1 (w.heap.size + 1) o (by first | omega | (simp; done) | (simp; omega))
    have hz1_1 := (bcell hb1).2.2 (w.heap.size + 1) (by first | omega | (simp; done) | (simp; omega))
    have HB1 := Lib.hid hb1
    clear hb1
    go_wp2
    go_ret
    exact ⟨ret_bool (by rw [HR.out] <;> simp [*]), (by repeat' (first | (with_reducible exact Below.refl _ _) | (with_reducible (refine Below.setCell ?_ ?_ _)) | (with_reducible (refine Below.alloc ?_ ?_ _)) | (with_reducible (refine Below.drew ?_)) | (with_reducible (refine below_via ?_ HB1.out ?_)) | omega | (simp; done) | (simp; omega)))⟩
  go_enter Try.func66, Try.ntmps66
  go_wp2_with fail
  refine Calls.mono (HST.out _) ?_
  rintro e w1 ⟨rfl, hb1⟩
  have hs1 := hb1.size
  try simp at hs1
  have hc1_0 := fun o => (bcell hb1).1 (w.heap.size) o (by first | omega | (simp; done) | (simp; omega))
  have hf1_0 := fun o => (bcell hb1).2.1 (w.heap.size) o (by first | omega | (simp; done) | (simp; omega))
  have hz1_0 := (bcell hb1).2.2 (w.heap.size) (by first | omega | (simp; done) | (simp; omega))
  have hc1_1 := fun o => (bcell hb1).1 (w.heap.size + 1) o (by first | omega | (simp; done) | (simp; omega))
  have hf1_1 := fun o => (bcell hb1).2.1 (w.heap.size + 1) o (by first | omega | (simp; done) | (simp; omega))
  have hz1_1 := (bcell hb1).2.2 (w.heap.size + 1) (by first | omega | (simp; done) | (simp; omega))
  have HB1 := Lib.hid hb1
  clear hb1
  go_wp2
  go_ret
  exact ⟨ret_bool (by rw [HR.out] <;> simp [*]), (by repeat' (first | (with_reducible exact Below.refl _ _) | (with_reducible (refine Below.setCell ?_ ?_ _)) | (with_reducible (refine Below.alloc ?_ ?_ _)) | (with_reducible (refine Below.drew ?_)) | (with_reducible (refine below_via ?_ HB1.out ?_)) | omega | (simp; done) | (simp; omega)))⟩

set_option maxRecDepth 100000 in
set_option maxHeartbeats 4000000 in
theorem takes_five (vmi asi pgi : Int) (ke vme ase : Int) (al : Bool) (pe level frame mid : Int) (r dw x af ng : Bool) (soft : Int) (w : World) (st at_ : Bool) (hst : stageE ⟨ke, vme, ase, al, pe, level, frame, mid, r, dw, x, af, ng, soft⟩ = st) (hat : atE ⟨5, vmi, asi, pgi⟩ ⟨ke, vme, ase, al, pe, level, frame, mid, r, dw, x, af, ng, soft⟩ = at_)
    (HST : Hid (∀ W, Calls Try.prog 87 #[.agg #[.int .i64 ke, .int .i64 vme, .int .i64 ase, .bool al, .int .i64 pe, .int .i64 level, .int .i64 frame, .int .i64 mid, .bool r, .bool dw, .bool x, .bool af, .bool ng, .int .i64 soft]] W fun y w' => y = .returned (.bool st) ∧ Below W.heap.size W w'))
    (HPA : Hid (∀ W, Calls Try.prog 88 #[.agg #[.int .i64 5, .int .i64 vmi, .int .i64 asi, .int .i64 pgi], .agg #[.int .i64 ke, .int .i64 vme, .int .i64 ase, .bool al, .int .i64 pe, .int .i64 level, .int .i64 frame, .int .i64 mid, .bool r, .bool dw, .bool x, .bool af, .bool ng, .int .i64 soft]] W fun y w' => y = .returned (.bool at_) ∧ Below W.heap.size W w')) :
    Calls Try.prog 66 #[.agg #[.int .i64 5, .int .i64 vmi, .int .i64 asi, .int .i64 pgi], .agg #[.int .i64 ke, .int .i64 vme, .int .i64 ase, .bool al, .int .i64 pe, .int .i64 level, .int .i64 frame, .int .i64 mid, .bool r, .bool dw, .bool x, .bool af, .bool ng, .int .i64 soft]] w fun y w' => y = .returned (.bool (takesE ⟨5, vmi, asi, pgi⟩ ⟨ke, vme, ase, al, pe, level, frame, mid, r, dw, x, af, ng, soft⟩)) ∧ Below w.heap.size w w' := by
  have HR := Lib.hid (show takesE ⟨5, vmi, asi, pgi⟩ ⟨ke, vme, ase, al, pe, level, frame, mid, r, dw, x, af, ng, soft⟩ = (vmi == vme && (st && (at_ && (al || ase == asi)))) by rw [← hst, ← hat]; rfl)
  clear hst hat
  rcases (Bool.eq_false_or_eq_true (vmi == vme)).symm with q0 | q0
  · have vm2 : (vmi != vme) = true := by unfold bne; rw [q0]; rfl
    go_enter Try.func66, Try.ntmps66
    go_wp2
    go_ret
    exact ⟨ret_bool (by rw [HR.out] <;> simp [*]), (by repeat' (first | (with_reducible exact Below.refl _ _) | (with_reducible (refine Below.setCell ?_ ?_ _)) | (with_reducible (refine Below.alloc ?_ ?_ _)) | (with_reducible (refine Below.drew ?_)) | omega | (simp; done) | (simp; omega)))⟩
  have vm2 : (vmi != vme) = false := by unfold bne; rw [q0]; rfl
  cases st
  · go_enter Try.func66, Try.ntmps66
    go_wp2_with fail
    refine Calls.mono (HST.out _) ?_
    rintro e w1 ⟨rfl, hb1⟩
    have hs1 := hb1.size
    try simp at hs1
    have hc1_0 := fun o => (bcell hb1).1 (w.heap.size) o (by first | omega | (simp; done) | (simp; omega))
    have hf1_0 := fun o => (bcell hb1).2.1 (w.heap.size) o (by first | omega | (simp; done) | (simp; omega))
    have hz1_0 := (bcell hb1).2.2 (w.heap.size) (by first | omega | (simp; done) | (simp; omega))
    have hc1_1 := fun o => (bcell hb1).1 (w.heap.size + 1) o (by first | omega | (simp; done) | (simp; omega))
    have hf1_1 := fun o => (bcell hb1).2.1 (w.heap.size + 1) o (by first | omega | (simp; done) | (simp; omega))
    have hz1_1 := (bcell hb1).2.2 (w.heap.size + 1) (by first | omega | (simp; done) | (simp; omega))
    have HB1 := Lib.hid hb1
    clear hb1
    go_wp2
    go_ret
    exact ⟨ret_bool (by rw [HR.out] <;> simp [*]), (by repeat' (first | (with_reducible exact Below.refl _ _) | (with_reducible (refine Below.setCell ?_ ?_ _)) | (with_reducible (refine Below.alloc ?_ ?_ _)) | (with_reducible (refine Below.drew ?_)) | (with_reducible (refine below_via ?_ HB1.out ?_)) | omega | (simp; done) | (simp; omega)))⟩
  cases at_
  · go_enter Try.func66, Try.ntmps66
    go_wp2_with fail
    refine Calls.mono (HST.out _) ?_
    rintro e w1 ⟨rfl, hb1⟩
    have hs1 := hb1.size
    try simp at hs1
    have hc1_0 := fun o => (bcell hb1).1 (w.heap.size) o (by first | omega | (simp; done) | (simp; omega))
    have hf1_0 := fun o => (bcell hb1).2.1 (w.heap.size) o (by first | omega | (simp; done) | (simp; omega))
    have hz1_0 := (bcell hb1).2.2 (w.heap.size) (by first | omega | (simp; done) | (simp; omega))
    have hc1_1 := fun o => (bcell hb1).1 (w.heap.size + 1) o (by first | omega | (simp; done) | (simp; omega))
    have hf1_1 := fun o => (bcell hb1).2.1 (w.heap.size + 1) o (by first | omega | (simp; done) | (simp; omega))
    have hz1_1 := (bcell hb1).2.2 (w.heap.size + 1) (by first | omega | (simp; done) | (simp; omega))
    have HB1 := Lib.hid hb1
    clear hb1
    go_wp2_with fail
    refine Calls.mono (HPA.out _) ?_
    rintro e w2 ⟨rfl, hb2⟩
    have hs2 := hb2.size
    try simp at hs2
    have hc2_0 := fun o => (bcell hb2).1 (w.heap.size) o (by first | omega | (simp; done) | (simp; omega))
    have hf2_0 := fun o => (bcell hb2).2.1 (w.heap.size) o (by first | omega | (simp; done) | (simp; omega))
    have hz2_0 := (bcell hb2).2.2 (w.heap.size) (by first | omega | (simp; done) | (simp; omega))
    have hc2_1 := fun o => (bcell hb2).1 (w.heap.size + 1) o (by first | omega | (simp; done) | (simp; omega))
    have hf2_1 := fun o => (bcell hb2).2.1 (w.heap.size + 1) o (by first | omega | (simp; done) | (simp; omega))
    have hz2_1 := (bcell hb2).2.2 (w.heap.size + 1) (by first | omega | (simp; done) | (simp; omega))
    have HB2 := Lib.hid hb2
    clear hb2
    go_wp2
    go_ret
    exact ⟨ret_bool (by rw [HR.out] <;> simp [*]), (by repeat' (first | (with_reducible exact Below.refl _ _) | (with_reducible (refine Below.setCell ?_ ?_ _)) | (with_reducible (refine Below.alloc ?_ ?_ _)) | (with_reducible (refine Below.drew ?_)) | (with_reducible (refine below_via ?_ HB2.out ?_)) | (with_reducible (refine below_via ?_ HB1.out ?_)) | omega | (simp; done) | (simp; omega)))⟩
  cases al
  · go_enter Try.func66, Try.ntmps66
    go_wp2_with fail
    refine Calls.mono (HST.out _) ?_
    rintro e w1 ⟨rfl, hb1⟩
    have hs1 := hb1.size
    try simp at hs1
    have hc1_0 := fun o => (bcell hb1).1 (w.heap.size) o (by first | omega | (simp; done) | (simp; omega))
    have hf1_0 := fun o => (bcell hb1).2.1 (w.heap.size) o (by first | omega | (simp; done) | (simp; omega))
    have hz1_0 := (bcell hb1).2.2 (w.heap.size) (by first | omega | (simp; done) | (simp; omega))
    have hc1_1 := fun o => (bcell hb1).1 (w.heap.size + 1) o (by first | omega | (simp; done) | (simp; omega))
    have hf1_1 := fun o => (bcell hb1).2.1 (w.heap.size + 1) o (by first | omega | (simp; done) | (simp; omega))
    have hz1_1 := (bcell hb1).2.2 (w.heap.size + 1) (by first | omega | (simp; done) | (simp; omega))
    have HB1 := Lib.hid hb1
    clear hb1
    go_wp2_with fail
    refine Calls.mono (HPA.out _) ?_
    rintro e w2 ⟨rfl, hb2⟩
    have hs2 := hb2.size
    try simp at hs2
    have hc2_0 := fun o => (bcell hb2).1 (w.heap.size) o (by first | omega | (simp; done) | (simp; omega))
    have hf2_0 := fun o => (bcell hb2).2.1 (w.heap.size) o (by first | omega | (simp; done) | (simp; omega))
    have hz2_0 := (bcell hb2).2.2 (w.heap.size) (by first | omega | (simp; done) | (simp; omega))
    have hc2_1 := fun o => (bcell hb2).1 (w.heap.size + 1) o (by first | omega | (simp; done) | (simp; omega))
    have hf2_1 := fun o => (bcell hb2).2.1 (w.heap.size + 1) o (by first | omega | (simp; done) | (simp; omega))
    have hz2_1 := (bcell hb2).2.2 (w.heap.size + 1) (by first | omega | (simp; done) | (simp; omega))
    have HB2 := Lib.hid hb2
    clear hb2
    go_wp2
    go_ret
    exact ⟨ret_bool (by rw [HR.out] <;> simp [*]), (by repeat' (first | (with_reducible exact Below.refl _ _) | (with_reducible (refine Below.setCell ?_ ?_ _)) | (with_reducible (refine Below.alloc ?_ ?_ _)) | (with_reducible (refine Below.drew ?_)) | (with_reducible (refine below_via ?_ HB2.out ?_)) | (with_reducible (refine below_via ?_ HB1.out ?_)) | omega | (simp; done) | (simp; omega)))⟩
  go_enter Try.func66, Try.ntmps66
  go_wp2_with fail
  refine Calls.mono (HST.out _) ?_
  rintro e w1 ⟨rfl, hb1⟩
  have hs1 := hb1.size
  try simp at hs1
  have hc1_0 := fun o => (bcell hb1).1 (w.heap.size) o (by first | omega | (simp; done) | (simp; omega))
  have hf1_0 := fun o => (bcell hb1).2.1 (w.heap.size) o (by first | omega | (simp; done) | (simp; omega))
  have hz1_0 := (bcell hb1).2.2 (w.heap.size) (by first | omega | (simp; done) | (simp; omega))
  have hc1_1 := fun o => (bcell hb1).1 (w.heap.size + 1) o (by first | omega | (simp; done) | (simp; omega))
  have hf1_1 := fun o => (bcell hb1).2.1 (w.heap.size + 1) o (by first | omega | (simp; done) | (simp; omega))
  have hz1_1 := (bcell hb1).2.2 (w.heap.size + 1) (by first | omega | (simp; done) | (simp; omega))
  have HB1 := Lib.hid hb1
  clear hb1
  go_wp2_with fail
  refine Calls.mono (HPA.out _) ?_
  rintro e w2 ⟨rfl, hb2⟩
  have hs2 := hb2.size
  try simp at hs2
  have hc2_0 := fun o => (bcell hb2).1 (w.heap.size) o (by first | omega | (simp; done) | (simp; omega))
  have hf2_0 := fun o => (bcell hb2).2.1 (w.heap.size) o (by first | omega | (simp; done) | (simp; omega))
  have hz2_0 := (bcell hb2).2.2 (w.heap.size) (by first | omega | (simp; done) | (simp; omega))
  have hc2_1 := fun o => (bcell hb2).1 (w.heap.size + 1) o (by first | omega | (simp; done) | (simp; omega))
  have hf2_1 := fun o => (bcell hb2).2.1 (w.heap.size + 1) o (by first | omega | (simp; done) | (simp; omega))
  have hz2_1 := (bcell hb2).2.2 (w.heap.size + 1) (by first | omega | (simp; done) | (simp; omega))
  have HB2 := Lib.hid hb2
  clear hb2
  go_wp2
  go_ret
  exact ⟨ret_bool (by rw [HR.out] <;> simp [*]), (by repeat' (first | (with_reducible exact Below.refl _ _) | (with_reducible (refine Below.setCell ?_ ?_ _)) | (with_reducible (refine Below.alloc ?_ ?_ _)) | (with_reducible (refine Below.drew ?_)) | (with_reducible (refine below_via ?_ HB2.out ?_)) | (with_reducible (refine below_via ?_ HB1.out ?_)) | omega | (simp; done) | (simp; omega)))⟩

set_option maxRecDepth 100000 in
set_option maxHeartbeats 4000000 in
theorem takes_six (ki vmi asi pgi : Int) (ke vme ase : Int) (al : Bool) (pe level frame mid : Int) (r dw x af ng : Bool) (soft : Int) (w : World) (h1 : ki ≠ 1) (h2 : ki ≠ 2) (h3 : ki ≠ 3) (h4 : ki ≠ 4) (h5 : ki ≠ 5) (st at_ : Bool) (_hst : stageE ⟨ke, vme, ase, al, pe, level, frame, mid, r, dw, x, af, ng, soft⟩ = st) (hat : atE ⟨ki, vmi, asi, pgi⟩ ⟨ke, vme, ase, al, pe, level, frame, mid, r, dw, x, af, ng, soft⟩ = at_)
    (_HST : Hid (∀ W, Calls Try.prog 87 #[.agg #[.int .i64 ke, .int .i64 vme, .int .i64 ase, .bool al, .int .i64 pe, .int .i64 level, .int .i64 frame, .int .i64 mid, .bool r, .bool dw, .bool x, .bool af, .bool ng, .int .i64 soft]] W fun y w' => y = .returned (.bool st) ∧ Below W.heap.size W w'))
    (HPA : Hid (∀ W, Calls Try.prog 88 #[.agg #[.int .i64 ki, .int .i64 vmi, .int .i64 asi, .int .i64 pgi], .agg #[.int .i64 ke, .int .i64 vme, .int .i64 ase, .bool al, .int .i64 pe, .int .i64 level, .int .i64 frame, .int .i64 mid, .bool r, .bool dw, .bool x, .bool af, .bool ng, .int .i64 soft]] W fun y w' => y = .returned (.bool at_) ∧ Below W.heap.size W w')) :
    Calls Try.prog 66 #[.agg #[.int .i64 ki, .int .i64 vmi, .int .i64 asi, .int .i64 pgi], .agg #[.int .i64 ke, .int .i64 vme, .int .i64 ase, .bool al, .int .i64 pe, .int .i64 level, .int .i64 frame, .int .i64 mid, .bool r, .bool dw, .bool x, .bool af, .bool ng, .int .i64 soft]] w fun y w' => y = .returned (.bool (takesE ⟨ki, vmi, asi, pgi⟩ ⟨ke, vme, ase, al, pe, level, frame, mid, r, dw, x, af, ng, soft⟩)) ∧ Below w.heap.size w w' := by
  have HR := Lib.hid (show takesE ⟨ki, vmi, asi, pgi⟩ ⟨ke, vme, ase, al, pe, level, frame, mid, r, dw, x, af, ng, soft⟩ = (vmi == vme && (ke == 2 && at_)) by rw [← hat]; unfold takesE; dsimp only; rw [if_neg h1, if_neg h2, if_neg h3, if_neg h4, if_neg h5])
  clear _hst hat
  have k1 : (ki == 1) = false := by simpa using h1
  have k2 : (ki == 2) = false := by simpa using h2
  have k3 : (ki == 3) = false := by simpa using h3
  have k4 : (ki == 4) = false := by simpa using h4
  have k5 : (ki == 5) = false := by simpa using h5
  clear h1 h2 h3 h4 h5
  rcases (Bool.eq_false_or_eq_true (vmi == vme)).symm with q0 | q0
  · have vm2 : (vmi != vme) = true := by unfold bne; rw [q0]; rfl
    go_enter Try.func66, Try.ntmps66
    go_wp2
    go_ret
    exact ⟨ret_bool (by rw [HR.out] <;> simp [*]), (by repeat' (first | (with_reducible exact Below.refl _ _) | (with_reducible (refine Below.setCell ?_ ?_ _)) | (with_reducible (refine Below.alloc ?_ ?_ _)) | (with_reducible (refine Below.drew ?_)) | omega | (simp; done) | (simp; omega)))⟩
  have vm2 : (vmi != vme) = false := by unfold bne; rw [q0]; rfl
  rcases (Bool.eq_false_or_eq_true (ke == 2)).symm with q1 | q1
  · go_enter Try.func66, Try.ntmps66
    go_wp2
    go_ret
    exact ⟨ret_bool (by rw [HR.out] <;> simp [*]), (by repeat' (first | (with_reducible exact Below.refl _ _) | (with_reducible (refine Below.setCell ?_ ?_ _)) | (with_reducible (refine Below.alloc ?_ ?_ _)) | (with_reducible (refine Below.drew ?_)) | omega | (simp; done) | (simp; omega)))⟩
  go_enter Try.func66, Try.ntmps66
  go_wp2_with fail
  refine Calls.mono (HPA.out _) ?_
  rintro e w2 ⟨rfl, hb2⟩
  have hs2 := hb2.size
  try simp at hs2
  have hc2_0 := fun o => (bcell hb2).1 (w.heap.size) o (by first | omega | (simp; done) | (simp; omega))
  have hf2_0 := fun o => (bcell hb2).2.1 (w.heap.size) o (by first | omega | (simp; done) | (simp; omega))
  have hz2_0 := (bcell hb2).2.2 (w.heap.size) (by first | omega | (simp; done) | (simp; omega))
  have hc2_1 := fun o => (bcell hb2).1 (w.heap.size + 1) o (by first | omega | (simp; done) | (simp; omega))
  have hf2_1 := fun o => (bcell hb2).2.1 (w.heap.size + 1) o (by first | omega | (simp; done) | (simp; omega))
  have hz2_1 := (bcell hb2).2.2 (w.heap.size + 1) (by first | omega | (simp; done) | (simp; omega))
  have HB2 := Lib.hid hb2
  clear hb2
  go_wp2
  go_ret
  exact ⟨ret_bool (by rw [HR.out] <;> simp [*]), (by repeat' (first | (with_reducible exact Below.refl _ _) | (with_reducible (refine Below.setCell ?_ ?_ _)) | (with_reducible (refine Below.alloc ?_ ?_ _)) | (with_reducible (refine Below.drew ?_)) | (with_reducible (refine below_via ?_ HB2.out ?_)) | omega | (simp; done) | (simp; omega)))⟩

theorem dueOk_page {i : Inv} (h : dueOk i = true) : 0 ≤ i.page ∧ i.page ≤ 4095 := by
  simp only [dueOk, numOk, Bool.and_eq_true, decide_eq_true_eq] at h
  exact h.2.2.2
theorem takes_any (i : Inv) (e : Ent) (w : World) (h : entOk e = true) (h0 : 0 ≤ i.page) (h1 : i.page ≤ 4095) :
    Calls Try.prog 66 #[.agg i.cells.toArray, .agg e.cells.toArray] w fun y w' => y = .returned (.bool (takesE i e)) ∧ Below w.heap.size w w' := by
  have HST := Lib.hid (fun W => stage_any e W)
  have HPA := Lib.hid (fun W => ipage_any i e W h h0 h1)
  clear h h0 h1
  obtain ⟨ke, vme, ase, al, pe, level, frame, mid, r, dw, x, af, ng, soft⟩ := e
  obtain ⟨ki, vmi, asi, pgi⟩ := i
  dsimp only [Ent.cells, Inv.cells] at *
  by_cases k1 : ki = 1
  · subst k1; exact takes_one vmi asi pgi ke vme ase al pe level frame mid r dw x af ng soft w _ _ rfl rfl HST HPA
  by_cases k2 : ki = 2
  · subst k2; exact takes_two vmi asi pgi ke vme ase al pe level frame mid r dw x af ng soft w _ _ rfl rfl HST HPA
  by_cases k3 : ki = 3
  · subst k3; exact takes_three vmi asi pgi ke vme ase al pe level frame mid r dw x af ng soft w _ _ rfl rfl HST HPA
  by_cases k4 : ki = 4
  · subst k4; exact takes_four vmi asi pgi ke vme ase al pe level frame mid r dw x af ng soft w _ _ rfl rfl HST HPA
  by_cases k5 : ki = 5
  · subst k5; exact takes_five vmi asi pgi ke vme ase al pe level frame mid r dw x af ng soft w _ _ rfl rfl HST HPA
  · exact takes_six ki vmi asi pgi ke vme ase al pe level frame mid r dw x af ng soft w k1 k2 k3 k4 k5 _ _ rfl rfl HST HPA

end Go.Proofs.Ytbaninglcafhhaa
