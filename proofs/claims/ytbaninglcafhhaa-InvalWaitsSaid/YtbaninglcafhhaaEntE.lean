/-
  Whether an entry is of a kind, a machine, an address space and a page; whether it lets an access be. Conditions: the entry may be, the page may.
-/
import Derived.Test.YtbaninglcafhhaaEntB
import Derived.Test.YtbaninglcafhhaaMay
namespace Go.Proofs.Ytbaninglcafhhaa
open Go.RowKit

/-- What may be lies within bounds. -/
theorem entOk_parts {e : Ent} (h : entOk e = true) : (0 ≤ e.page ∧ e.page ≤ 4095) ∧ (e.kind = 1 ∨ e.kind = 2 ∨ e.kind = 3) ∧ (e.kind = 3 → 1 ≤ e.level ∧ e.level ≤ 3) ∧ (e.kind = 2 → e.all = true) := by
  obtain ⟨kind, vmid, asid, al, page, level, frame, mid, r, dw, x, af, ng, soft⟩ := e
  unfold entOk at h
  dsimp only at h ⊢
  rw [Bool.and_eq_true] at h
  obtain ⟨h1, h2⟩ := h
  simp only [Bool.and_eq_true, numOk, decide_eq_true_eq] at h1
  refine ⟨h1.2.2.1, ?_⟩
  by_cases k1 : kind = 1
  · subst k1; exact ⟨.inl rfl, fun h => by omega, fun h => by omega⟩
  rw [if_neg k1] at h2
  by_cases k2 : kind = 2
  · subst k2
    rw [if_pos rfl] at h2
    simp only [Bool.and_eq_true] at h2
    exact ⟨.inr (.inl rfl), fun h => by omega, fun _ => h2.2.1⟩
  rw [if_neg k2] at h2
  by_cases k3 : kind = 3
  · subst k3
    rw [if_pos rfl] at h2
    simp only [Bool.and_eq_true, decide_eq_true_eq] at h2
    exact ⟨.inr (.inr rfl), fun _ => ⟨h2.1, h2.2.1⟩, fun h => by omega⟩
  · rw [if_neg k3] at h2; cases h2

def pageOf (e : Ent) (page : Int) : Int := if e.kind = 3 then cutOf page e.level else page
def ofE (e : Ent) (kind vmid asid page : Int) : Bool := e.kind == kind && (e.vmid == vmid && ((e.all || e.asid == asid) && e.page == pageOf e page))

set_option maxRecDepth 100000 in
set_option maxHeartbeats 4000000 in
theorem of_walk (vme ase : Int) (al : Bool) (pe level frame mid : Int) (r dw x af ng : Bool) (soft : Int) (kind vmid asid page : Int) (w : World) (h0 : 0 ≤ page) (h1 : page ≤ 4095) (h2 : 1 ≤ level) (h3 : level ≤ 3) :
    Calls Try.prog 81 #[.agg #[.int .i64 3, .int .i64 vme, .int .i64 ase, .bool al, .int .i64 pe, .int .i64 level, .int .i64 frame, .int .i64 mid, .bool r, .bool dw, .bool x, .bool af, .bool ng, .int .i64 soft], .int .i64 kind, .int .i64 vmid, .int .i64 asid, .int .i64 page] w fun e w' => e = .returned (.bool (ofE ⟨3, vme, ase, al, pe, level, frame, mid, r, dw, x, af, ng, soft⟩ kind vmid asid page)) ∧ Below w.heap.size w w' := by
  have HBASE := Lib.hid (fun W => base_any page level h0 h1 h2 h3 W)
  have HR := Lib.hid (show ofE ⟨3, vme, ase, al, pe, level, frame, mid, r, dw, x, af, ng, soft⟩ kind vmid asid page = (3 == kind && (vme == vmid && ((al || ase == asid) && pe == cutOf page level))) from rfl)
  generalize cutOf page level = ct at *
  rcases (Bool.eq_false_or_eq_true (3 == kind)).symm with q0 | q0
  · go_enter Try.func81, Try.ntmps81
    go_wp2_with (first | (go_at_call 90; refine (HBASE.out _).mono ?_; rintro e w' ⟨rfl, rfl⟩))
    go_ret
    exact ⟨ret_bool (by rw [HR.out] <;> simp [*]), (by repeat' (first | (with_reducible exact Below.refl _ _) | (with_reducible (refine Below.setCell ?_ ?_ _)) | (with_reducible (refine Below.alloc ?_ ?_ _)) | (with_reducible (refine Below.drew ?_)) | omega | (simp; done) | (simp; omega)))⟩
  rcases (Bool.eq_false_or_eq_true (vme == vmid)).symm with q1 | q1
  · go_enter Try.func81, Try.ntmps81
    go_wp2_with (first | (go_at_call 90; refine (HBASE.out _).mono ?_; rintro e w' ⟨rfl, rfl⟩))
    go_ret
    exact ⟨ret_bool (by rw [HR.out] <;> simp [*]), (by repeat' (first | (with_reducible exact Below.refl _ _) | (with_reducible (refine Below.setCell ?_ ?_ _)) | (with_reducible (refine Below.alloc ?_ ?_ _)) | (with_reducible (refine Below.drew ?_)) | omega | (simp; done) | (simp; omega)))⟩
  rcases Bool.eq_false_or_eq_true (al) with q2 | q2
  · go_enter Try.func81, Try.ntmps81
    go_wp2_with (first | (go_at_call 90; refine (HBASE.out _).mono ?_; rintro e w' ⟨rfl, rfl⟩))
    go_ret
    exact ⟨ret_bool (by rw [HR.out] <;> simp [*]), (by repeat' (first | (with_reducible exact Below.refl _ _) | (with_reducible (refine Below.setCell ?_ ?_ _)) | (with_reducible (refine Below.alloc ?_ ?_ _)) | (with_reducible (refine Below.drew ?_)) | omega | (simp; done) | (simp; omega)))⟩
  rcases (Bool.eq_false_or_eq_true (ase == asid)).symm with q3 | q3
  · go_enter Try.func81, Try.ntmps81
    go_wp2_with (first | (go_at_call 90; refine (HBASE.out _).mono ?_; rintro e w' ⟨rfl, rfl⟩))
    go_ret
    exact ⟨ret_bool (by rw [HR.out] <;> simp [*]), (by repeat' (first | (with_reducible exact Below.refl _ _) | (with_reducible (refine Below.setCell ?_ ?_ _)) | (with_reducible (refine Below.alloc ?_ ?_ _)) | (with_reducible (refine Below.drew ?_)) | omega | (simp; done) | (simp; omega)))⟩
  go_enter Try.func81, Try.ntmps81
  go_wp2_with (first | (go_at_call 90; refine (HBASE.out _).mono ?_; rintro e w' ⟨rfl, rfl⟩))
  go_ret
  exact ⟨ret_bool (by rw [HR.out] <;> simp [*]), (by repeat' (first | (with_reducible exact Below.refl _ _) | (with_reducible (refine Below.setCell ?_ ?_ _)) | (with_reducible (refine Below.alloc ?_ ?_ _)) | (with_reducible (refine Below.drew ?_)) | omega | (simp; done) | (simp; omega)))⟩

set_option maxRecDepth 100000 in
set_option maxHeartbeats 4000000 in
theorem of_else (ke vme ase : Int) (al : Bool) (pe level frame mid : Int) (r dw x af ng : Bool) (soft : Int) (kind vmid asid page : Int) (w : World) (hk : ke ≠ 3) :
    Calls Try.prog 81 #[.agg #[.int .i64 ke, .int .i64 vme, .int .i64 ase, .bool al, .int .i64 pe, .int .i64 level, .int .i64 frame, .int .i64 mid, .bool r, .bool dw, .bool x, .bool af, .bool ng, .int .i64 soft], .int .i64 kind, .int .i64 vmid, .int .i64 asid, .int .i64 page] w fun e w' => e = .returned (.bool (ofE ⟨ke, vme, ase, al, pe, level, frame, mid, r, dw, x, af, ng, soft⟩ kind vmid asid page)) ∧ Below w.heap.size w w' := by
  have HR := Lib.hid (show ofE ⟨ke, vme, ase, al, pe, level, frame, mid, r, dw, x, af, ng, soft⟩ kind vmid asid page = (ke == kind && (vme == vmid && ((al || ase == asid) && pe == page))) by unfold ofE pageOf; dsimp only; rw [if_neg hk])
  have k3 : (ke == 3) = false := by simpa using hk
  clear hk
  rcases (Bool.eq_false_or_eq_true (ke == kind)).symm with q0 | q0
  · go_enter Try.func81, Try.ntmps81
    go_wp2
    go_ret
    exact ⟨ret_bool (by rw [HR.out] <;> simp [*]), (by repeat' (first | (with_reducible exact Below.refl _ _) | (with_reducible (refine Below.setCell ?_ ?_ _)) | (with_reducible (refine Below.alloc ?_ ?_ _)) | (with_reducible (refine Below.drew ?_)) | omega | (simp; done) | (simp; omega)))⟩
  rcases (Bool.eq_false_or_eq_true (vme == vmid)).symm with q1 | q1
  · go_enter Try.func81, Try.ntmps81
    go_wp2
    go_ret
    exact ⟨ret_bool (by rw [HR.out] <;> simp [*]), (by repeat' (first | (with_reducible exact Below.refl _ _) | (with_reducible (refine Below.setCell ?_ ?_ _)) | (with_reducible (refine Below.alloc ?_ ?_ _)) | (with_reducible (refine Below.drew ?_)) | omega | (simp; done) | (simp; omega)))⟩
  rcases Bool.eq_false_or_eq_true (al) with q2 | q2
  · go_enter Try.func81, Try.ntmps81
    go_wp2
    go_ret
    exact ⟨ret_bool (by rw [HR.out] <;> simp [*]), (by repeat' (first | (with_reducible exact Below.refl _ _) | (with_reducible (refine Below.setCell ?_ ?_ _)) | (with_reducible (refine Below.alloc ?_ ?_ _)) | (with_reducible (refine Below.drew ?_)) | omega | (simp; done) | (simp; omega)))⟩
  rcases (Bool.eq_false_or_eq_true (ase == asid)).symm with q3 | q3
  · go_enter Try.func81, Try.ntmps81
    go_wp2
    go_ret
    exact ⟨ret_bool (by rw [HR.out] <;> simp [*]), (by repeat' (first | (with_reducible exact Below.refl _ _) | (with_reducible (refine Below.setCell ?_ ?_ _)) | (with_reducible (refine Below.alloc ?_ ?_ _)) | (with_reducible (refine Below.drew ?_)) | omega | (simp; done) | (simp; omega)))⟩
  go_enter Try.func81, Try.ntmps81
  go_wp2
  go_ret
  exact ⟨ret_bool (by rw [HR.out] <;> simp [*]), (by repeat' (first | (with_reducible exact Below.refl _ _) | (with_reducible (refine Below.setCell ?_ ?_ _)) | (with_reducible (refine Below.alloc ?_ ?_ _)) | (with_reducible (refine Below.drew ?_)) | omega | (simp; done) | (simp; omega)))⟩

theorem of_any (e : Ent) (kind vmid asid page : Int) (w : World) (h : entOk e = true) (h0 : 0 ≤ page) (h1 : page ≤ 4095) :
    Calls Try.prog 81 #[.agg e.cells.toArray, .int .i64 kind, .int .i64 vmid, .int .i64 asid, .int .i64 page] w fun y w' => y = .returned (.bool (ofE e kind vmid asid page)) ∧ Below w.heap.size w w' := by
  obtain ⟨_, _, hl, _⟩ := entOk_parts h
  clear h
  obtain ⟨ke, vme, ase, al, pe, level, frame, mid, r, dw, x, af, ng, soft⟩ := e
  dsimp only at hl
  by_cases k3 : ke = 3
  · subst k3
    exact of_walk vme ase al pe level frame mid r dw x af ng soft kind vmid asid page w h0 h1 (hl rfl).1 (hl rfl).2
  · exact of_else ke vme ase al pe level frame mid r dw x af ng soft kind vmid asid page w k3

def letsE (e : Ent) (acc : Int) : Bool := mayOf e.r e.w e.x acc
theorem lets_any (e : Ent) (acc : Int) (w : World) :
    Calls Try.prog 95 #[.agg e.cells.toArray, .int .i64 acc] w fun y w' => y = .returned (.bool (letsE e acc)) ∧ Below w.heap.size w w' := by
  obtain ⟨ke, vme, ase, al, pe, level, frame, mid, r, dw, x, af, ng, soft⟩ := e
  unfold letsE
  dsimp only [Ent.cells]
  have HM := Lib.hid (fun W => pmay_any r dw x af ng soft acc W)
  generalize mayOf r dw x acc = m at *
  generalize formIf _ = fi at *
  go_enter Try.func95, Try.ntmps95
  go_wp2_with fail
  refine Calls.mono (HM.out _) ?_
  rintro e w1 ⟨rfl, hb1⟩
  have hs1 := hb1.size
  try simp at hs1
  have hc1_0 := fun o => (bcell hb1).1 (w.heap.size) o (by first | omega | (simp; done) | (simp; omega))
  have hf1_0 := fun o => (bcell hb1).2.1 (w.heap.size) o (by first | omega | (simp; done) | (simp; omega))
  have hz1_0 := (bcell hb1).2.2 (w.heap.size) (by first | omega | (simp; done) | (simp; omega))
  have HB1 := Lib.hid hb1
  clear hb1
  go_wp2
  go_ret
  exact ⟨rfl, (by repeat' (first | (with_reducible exact Below.refl _ _) | (with_reducible (refine Below.setCell ?_ ?_ _)) | (with_reducible (refine Below.alloc ?_ ?_ _)) | (with_reducible (refine Below.drew ?_)) | (with_reducible (refine below_via ?_ HB1.out ?_)) | omega | (simp; done) | (simp; omega)))⟩

/-- The page's own words. -/
def oneOf (e : Ent) (vmid asid : Int) : Bool := e.vmid == vmid && (e.all || e.asid == asid)
theorem rof_any (e : Ent) (vmid asid : Int) (w : World) :
    Calls Try.prog 82 #[.agg e.cells.toArray, .int .i64 vmid, .int .i64 asid] w fun y w' => y = .returned (.bool (oneOf e vmid asid)) ∧ Below w.heap.size w w' := by
  obtain ⟨ke, vme, ase, al, pe, level, frame, mid, r, dw, x, af, ng, soft⟩ := e
  have HR := Lib.hid (show oneOf ⟨ke, vme, ase, al, pe, level, frame, mid, r, dw, x, af, ng, soft⟩ vmid asid = (vme == vmid && (al || ase == asid)) from rfl)
  dsimp only [Ent.cells]
  rcases (Bool.eq_false_or_eq_true (vme == vmid)).symm with q0 | q0
  · go_enter Try.func82, Try.ntmps82
    go_wp2
    go_ret
    exact ⟨ret_bool (by rw [HR.out] <;> simp [*]), (by repeat' (first | (with_reducible exact Below.refl _ _) | (with_reducible (refine Below.setCell ?_ ?_ _)) | (with_reducible (refine Below.alloc ?_ ?_ _)) | (with_reducible (refine Below.drew ?_)) | omega | (simp; done) | (simp; omega)))⟩
  rcases Bool.eq_false_or_eq_true (al) with q1 | q1
  · go_enter Try.func82, Try.ntmps82
    go_wp2
    go_ret
    exact ⟨ret_bool (by rw [HR.out] <;> simp [*]), (by repeat' (first | (with_reducible exact Below.refl _ _) | (with_reducible (refine Below.setCell ?_ ?_ _)) | (with_reducible (refine Below.alloc ?_ ?_ _)) | (with_reducible (refine Below.drew ?_)) | omega | (simp; done) | (simp; omega)))⟩
  rcases (Bool.eq_false_or_eq_true (ase == asid)).symm with q2 | q2
  · go_enter Try.func82, Try.ntmps82
    go_wp2
    go_ret
    exact ⟨ret_bool (by rw [HR.out] <;> simp [*]), (by repeat' (first | (with_reducible exact Below.refl _ _) | (with_reducible (refine Below.setCell ?_ ?_ _)) | (with_reducible (refine Below.alloc ?_ ?_ _)) | (with_reducible (refine Below.drew ?_)) | omega | (simp; done) | (simp; omega)))⟩
  go_enter Try.func82, Try.ntmps82
  go_wp2
  go_ret
  exact ⟨ret_bool (by rw [HR.out] <;> simp [*]), (by repeat' (first | (with_reducible exact Below.refl _ _) | (with_reducible (refine Below.setCell ?_ ?_ _)) | (with_reducible (refine Below.alloc ?_ ?_ _)) | (with_reducible (refine Below.drew ?_)) | omega | (simp; done) | (simp; omega)))⟩

end Go.Proofs.Ytbaninglcafhhaa
