/-
  Whether something that takes entries away may be: the program's answer and the page's. Conditions: none.
-/
import Derived.Test.YtbaninglcafhhaaEntB
namespace Go.Proofs.Ytbaninglcafhhaa
open Go.RowKit

set_option maxHeartbeats 4000000 in
theorem due_lit (kind vmid asid page : Int) (w : World) :
    Calls Try.prog 85 #[.agg #[.int .i64 kind, .int .i64 vmid, .int .i64 asid, .int .i64 page]] w fun e w' => e = .returned (.bool (dueOk ⟨kind, vmid, asid, page⟩)) ∧ Below w.heap.size w w' := by
  have HR := Lib.hid (show dueOk ⟨kind, vmid, asid, page⟩ = (decide (1 ≤ kind) && (decide (kind ≤ 6) && ((numOk vmid 15 && numOk asid 15) && numOk page 4095))) by unfold dueOk; dsimp only; rw [Bool.and_assoc, Bool.and_assoc])
  have H2 := Lib.hid (fun (W : World) b t hb => win2 15 vmid asid W b t hb)
  have H1 := Lib.hid (fun (W : World) b t hb => win1 4095 page W b t hb)
  generalize (numOk vmid 15 && numOk asid 15) = g2 at *
  generalize numOk page 4095 = g1 at *
  rcases (Bool.eq_false_or_eq_true (decide (1 ≤ kind))).symm with q0 | q0
  · go_enter Try.func85, Try.ntmps85
    go_wp2
    go_ret
    exact ⟨ret_bool (by rw [HR.out] <;> simp [*]), (by repeat' (first | (with_reducible exact Below.refl _ _) | (with_reducible (refine Below.setCell ?_ ?_ _)) | (with_reducible (refine Below.alloc ?_ ?_ _)) | (with_reducible (refine Below.drew ?_)) | omega | (simp; done) | (simp; omega)))⟩
  rcases (Bool.eq_false_or_eq_true (decide (kind ≤ 6))).symm with q1 | q1
  · go_enter Try.func85, Try.ntmps85
    go_wp2
    go_ret
    exact ⟨ret_bool (by rw [HR.out] <;> simp [*]), (by repeat' (first | (with_reducible exact Below.refl _ _) | (with_reducible (refine Below.setCell ?_ ?_ _)) | (with_reducible (refine Below.alloc ?_ ?_ _)) | (with_reducible (refine Below.drew ?_)) | omega | (simp; done) | (simp; omega)))⟩
  cases g2
  · go_enter Try.func85, Try.ntmps85
    go_wp2_with fail
    refine Calls.mono (H2.out _ _ _ (by simp)) ?_
    rintro e w1 ⟨rfl, hb1⟩
    have hs1 := hb1.size
    try simp at hs1
    have hc1_0 := fun o => (bcell hb1).1 (w.heap.size) o (by first | omega | (simp; done) | (simp; omega))
    have hf1_0 := fun o => (bcell hb1).2.1 (w.heap.size) o (by first | omega | (simp; done) | (simp; omega))
    have hz1_0 := (bcell hb1).2.2 (w.heap.size) (by first | omega | (simp; done) | (simp; omega))
    have HB1 := Lib.hid hb1
    clear hb1
    go_wp2
    go_ret
    exact ⟨ret_bool (by rw [HR.out] <;> simp [*]), (by repeat' (first | (with_reducible exact Below.refl _ _) | (with_reducible (refine Below.setCell ?_ ?_ _)) | (with_reducible (refine Below.alloc ?_ ?_ _)) | (with_reducible (refine Below.drew ?_)) | (with_reducible (refine below_via ?_ HB1.out ?_)) | omega | (simp; done) | (simp; omega)))⟩
  go_enter Try.func85, Try.ntmps85
  go_wp2_with fail
  refine Calls.mono (H2.out _ _ _ (by simp)) ?_
  rintro e w1 ⟨rfl, hb1⟩
  have hs1 := hb1.size
  try simp at hs1
  have hc1_0 := fun o => (bcell hb1).1 (w.heap.size) o (by first | omega | (simp; done) | (simp; omega))
  have hf1_0 := fun o => (bcell hb1).2.1 (w.heap.size) o (by first | omega | (simp; done) | (simp; omega))
  have hz1_0 := (bcell hb1).2.2 (w.heap.size) (by first | omega | (simp; done) | (simp; omega))
  have HB1 := Lib.hid hb1
  clear hb1
  go_wp2_with fail
  refine Calls.mono (H1.out _ _ _ (by simp)) ?_
  rintro e w2 ⟨rfl, hb2⟩
  have hs2 := hb2.size
  try simp at hs2
  have HB2 := Lib.hid hb2
  clear hb2
  go_wp2
  go_ret
  exact ⟨ret_bool (by rw [HR.out] <;> simp [*]), (by repeat' (first | (with_reducible exact Below.refl _ _) | (with_reducible (refine Below.setCell ?_ ?_ _)) | (with_reducible (refine Below.alloc ?_ ?_ _)) | (with_reducible (refine Below.drew ?_)) | (with_reducible (refine below_via ?_ HB2.out ?_)) | (with_reducible (refine below_via ?_ HB1.out ?_)) | omega | (simp; done) | (simp; omega)))⟩
theorem due_any (i : Inv) (w : World) : Calls Try.prog 85 #[.agg i.cells.toArray] w fun e w' => e = .returned (.bool (dueOk i)) ∧ Below w.heap.size w w' := by
  obtain ⟨kind, vmid, asid, page⟩ := i
  exact due_lit kind vmid asid page w
theorem due1_any (i : Inv) (w : World) : Calls Try.prog 84 #[.agg i.cells.toArray] w fun e w' => e = .returned (.bool (!dueOk i)) ∧ Below w.heap.size w w' := by
  have HD := Lib.hid (fun W => due_any i W)
  obtain ⟨kind, vmid, asid, page⟩ := i
  dsimp only [Inv.cells] at *
  generalize dueOk _ = g at *
  go_enter Try.func84, Try.ntmps84
  go_wp2_with fail
  refine Calls.mono (HD.out _) ?_
  rintro e w1 ⟨rfl, hb1⟩
  have hs1 := hb1.size
  try simp at hs1
  have HB1 := Lib.hid hb1
  clear hb1
  go_wp2
  go_ret
  exact ⟨rfl, (by repeat' (first | (with_reducible exact Below.refl _ _) | (with_reducible (refine Below.setCell ?_ ?_ _)) | (with_reducible (refine Below.alloc ?_ ?_ _)) | (with_reducible (refine Below.drew ?_)) | (with_reducible (refine below_via ?_ HB1.out ?_)) | omega | (simp; done) | (simp; omega)))⟩

set_option maxHeartbeats 4000000 in
theorem rInval_any (i : Inv) (w : World) : Calls Try.prog 21 #[.agg i.cells.toArray] w fun e w' => e = .returned (.bool (dueOk i)) ∧ Below w.heap.size w w' := by
  obtain ⟨kind, vmid, asid, page⟩ := i
  dsimp only [Inv.cells]
  have HR := Lib.hid (show dueOk ⟨kind, vmid, asid, page⟩ = (decide (1 ≤ kind) && (decide (kind ≤ 6) && (numOk vmid 15 && (numOk asid 15 && numOk page 4095)))) by unfold dueOk; dsimp only; rw [Bool.and_assoc])
  have HT := Lib.hid (fun n W => tag_any n W)
  have HP := Lib.hid (fun W => page_any page W)
  generalize numOk page 4095 = g1 at *
  rcases (Bool.eq_false_or_eq_true (decide (1 ≤ kind))).symm with q0 | q0
  · go_enter Try.func21, Try.ntmps21
    go_wp2_with (first | (go_at_call 53; refine (HT.out _ _).mono ?_; rintro e w' ⟨rfl, rfl⟩) | (go_at_call 54; refine (HP.out _).mono ?_; rintro e w' ⟨rfl, rfl⟩))
    go_ret
    exact ⟨ret_bool (by rw [HR.out] <;> simp [*]), (by repeat' (first | (with_reducible exact Below.refl _ _) | (with_reducible (refine Below.setCell ?_ ?_ _)) | (with_reducible (refine Below.alloc ?_ ?_ _)) | (with_reducible (refine Below.drew ?_)) | omega | (simp; done) | (simp; omega)))⟩
  rcases (Bool.eq_false_or_eq_true (decide (kind ≤ 6))).symm with q1 | q1
  · go_enter Try.func21, Try.ntmps21
    go_wp2_with (first | (go_at_call 53; refine (HT.out _ _).mono ?_; rintro e w' ⟨rfl, rfl⟩) | (go_at_call 54; refine (HP.out _).mono ?_; rintro e w' ⟨rfl, rfl⟩))
    go_ret
    exact ⟨ret_bool (by rw [HR.out] <;> simp [*]), (by repeat' (first | (with_reducible exact Below.refl _ _) | (with_reducible (refine Below.setCell ?_ ?_ _)) | (with_reducible (refine Below.alloc ?_ ?_ _)) | (with_reducible (refine Below.drew ?_)) | omega | (simp; done) | (simp; omega)))⟩
  rcases (Bool.eq_false_or_eq_true (numOk vmid 15)).symm with q2 | q2
  · go_enter Try.func21, Try.ntmps21
    go_wp2_with (first | (go_at_call 53; refine (HT.out _ _).mono ?_; rintro e w' ⟨rfl, rfl⟩) | (go_at_call 54; refine (HP.out _).mono ?_; rintro e w' ⟨rfl, rfl⟩))
    go_ret
    exact ⟨ret_bool (by rw [HR.out] <;> simp [*]), (by repeat' (first | (with_reducible exact Below.refl _ _) | (with_reducible (refine Below.setCell ?_ ?_ _)) | (with_reducible (refine Below.alloc ?_ ?_ _)) | (with_reducible (refine Below.drew ?_)) | omega | (simp; done) | (simp; omega)))⟩
  rcases (Bool.eq_false_or_eq_true (numOk asid 15)).symm with q3 | q3
  · go_enter Try.func21, Try.ntmps21
    go_wp2_with (first | (go_at_call 53; refine (HT.out _ _).mono ?_; rintro e w' ⟨rfl, rfl⟩) | (go_at_call 54; refine (HP.out _).mono ?_; rintro e w' ⟨rfl, rfl⟩))
    go_ret
    exact ⟨ret_bool (by rw [HR.out] <;> simp [*]), (by repeat' (first | (with_reducible exact Below.refl _ _) | (with_reducible (refine Below.setCell ?_ ?_ _)) | (with_reducible (refine Below.alloc ?_ ?_ _)) | (with_reducible (refine Below.drew ?_)) | omega | (simp; done) | (simp; omega)))⟩
  go_enter Try.func21, Try.ntmps21
  go_wp2_with (first | (go_at_call 53; refine (HT.out _ _).mono ?_; rintro e w' ⟨rfl, rfl⟩) | (go_at_call 54; refine (HP.out _).mono ?_; rintro e w' ⟨rfl, rfl⟩))
  go_ret
  exact ⟨ret_bool (by rw [HR.out] <;> simp [*]), (by repeat' (first | (with_reducible exact Below.refl _ _) | (with_reducible (refine Below.setCell ?_ ?_ _)) | (with_reducible (refine Below.alloc ?_ ?_ _)) | (with_reducible (refine Below.drew ?_)) | omega | (simp; done) | (simp; omega)))⟩

end Go.Proofs.Ytbaninglcafhhaa
