/-
  Whether something takes an entry away: the page's answer. Conditions: both may be.
-/
import Derived.Test.YtbaninglcafhhaaTakeA
namespace Go.Proofs.Ytbaninglcafhhaa
open Go.RowKit

set_option maxRecDepth 100000 in
set_option maxHeartbeats 4000000 in
theorem rtakes_1_1 (vmi asi pgi vme ase : Int) (al : Bool) (pe level frame mid : Int) (r dw x af ng : Bool) (soft : Int) (w : World) :
    Calls Try.prog 23 #[.agg #[.int .i64 1, .int .i64 vmi, .int .i64 asi, .int .i64 pgi], .agg #[.int .i64 1, .int .i64 vme, .int .i64 ase, .bool al, .int .i64 pe, .int .i64 level, .int .i64 frame, .int .i64 mid, .bool r, .bool dw, .bool x, .bool af, .bool ng, .int .i64 soft]] w fun y w' => y = .returned (.bool (takesE ⟨1, vmi, asi, pgi⟩ ⟨1, vme, ase, al, pe, level, frame, mid, r, dw, x, af, ng, soft⟩)) ∧ Below w.heap.size w w' := by
  have HR := Lib.hid (show takesE ⟨1, vmi, asi, pgi⟩ ⟨1, vme, ase, al, pe, level, frame, mid, r, dw, x, af, ng, soft⟩ = true from rfl)
  go_enter Try.func23, Try.ntmps23
  go_wp2
  go_ret
  exact ⟨ret_bool (by rw [HR.out] <;> simp [*]), (by repeat' (first | (with_reducible exact Below.refl _ _) | (with_reducible (refine Below.setCell ?_ ?_ _)) | (with_reducible (refine Below.alloc ?_ ?_ _)) | (with_reducible (refine Below.drew ?_)) | omega | (simp; done) | (simp; omega)))⟩

set_option maxRecDepth 100000 in
set_option maxHeartbeats 4000000 in
theorem rtakes_1_2 (vmi asi pgi vme ase : Int) (al : Bool) (pe level frame mid : Int) (r dw x af ng : Bool) (soft : Int) (w : World) :
    Calls Try.prog 23 #[.agg #[.int .i64 1, .int .i64 vmi, .int .i64 asi, .int .i64 pgi], .agg #[.int .i64 2, .int .i64 vme, .int .i64 ase, .bool al, .int .i64 pe, .int .i64 level, .int .i64 frame, .int .i64 mid, .bool r, .bool dw, .bool x, .bool af, .bool ng, .int .i64 soft]] w fun y w' => y = .returned (.bool (takesE ⟨1, vmi, asi, pgi⟩ ⟨2, vme, ase, al, pe, level, frame, mid, r, dw, x, af, ng, soft⟩)) ∧ Below w.heap.size w w' := by
  have HR := Lib.hid (show takesE ⟨1, vmi, asi, pgi⟩ ⟨2, vme, ase, al, pe, level, frame, mid, r, dw, x, af, ng, soft⟩ = true from rfl)
  go_enter Try.func23, Try.ntmps23
  go_wp2
  go_ret
  exact ⟨ret_bool (by rw [HR.out] <;> simp [*]), (by repeat' (first | (with_reducible exact Below.refl _ _) | (with_reducible (refine Below.setCell ?_ ?_ _)) | (with_reducible (refine Below.alloc ?_ ?_ _)) | (with_reducible (refine Below.drew ?_)) | omega | (simp; done) | (simp; omega)))⟩

set_option maxRecDepth 100000 in
set_option maxHeartbeats 4000000 in
theorem rtakes_1_3 (vmi asi pgi vme ase : Int) (al : Bool) (pe level frame mid : Int) (r dw x af ng : Bool) (soft : Int) (w : World) :
    Calls Try.prog 23 #[.agg #[.int .i64 1, .int .i64 vmi, .int .i64 asi, .int .i64 pgi], .agg #[.int .i64 3, .int .i64 vme, .int .i64 ase, .bool al, .int .i64 pe, .int .i64 level, .int .i64 frame, .int .i64 mid, .bool r, .bool dw, .bool x, .bool af, .bool ng, .int .i64 soft]] w fun y w' => y = .returned (.bool (takesE ⟨1, vmi, asi, pgi⟩ ⟨3, vme, ase, al, pe, level, frame, mid, r, dw, x, af, ng, soft⟩)) ∧ Below w.heap.size w w' := by
  have HR := Lib.hid (show takesE ⟨1, vmi, asi, pgi⟩ ⟨3, vme, ase, al, pe, level, frame, mid, r, dw, x, af, ng, soft⟩ = true from rfl)
  go_enter Try.func23, Try.ntmps23
  go_wp2
  go_ret
  exact ⟨ret_bool (by rw [HR.out] <;> simp [*]), (by repeat' (first | (with_reducible exact Below.refl _ _) | (with_reducible (refine Below.setCell ?_ ?_ _)) | (with_reducible (refine Below.alloc ?_ ?_ _)) | (with_reducible (refine Below.drew ?_)) | omega | (simp; done) | (simp; omega)))⟩

set_option maxRecDepth 100000 in
set_option maxHeartbeats 4000000 in
theorem rtakes_2_1 (vmi asi pgi vme ase : Int) (al : Bool) (pe level frame mid : Int) (r dw x af ng : Bool) (soft : Int) (w : World) :
    Calls Try.prog 23 #[.agg #[.int .i64 2, .int .i64 vmi, .int .i64 asi, .int .i64 pgi], .agg #[.int .i64 1, .int .i64 vme, .int .i64 ase, .bool al, .int .i64 pe, .int .i64 level, .int .i64 frame, .int .i64 mid, .bool r, .bool dw, .bool x, .bool af, .bool ng, .int .i64 soft]] w fun y w' => y = .returned (.bool (takesE ⟨2, vmi, asi, pgi⟩ ⟨1, vme, ase, al, pe, level, frame, mid, r, dw, x, af, ng, soft⟩)) ∧ Below w.heap.size w w' := by
  have HR := Lib.hid (show takesE ⟨2, vmi, asi, pgi⟩ ⟨1, vme, ase, al, pe, level, frame, mid, r, dw, x, af, ng, soft⟩ = (vmi == vme && true) from rfl)
  rcases (Bool.eq_false_or_eq_true (vme == vmi)).symm with q0 | q0
  · have vm2 : (vme != vmi) = true := by unfold bne; rw [q0]; rfl
    have vm3 : (vmi == vme) = false := by rw [Bool.eq_false_iff] at q0 ⊢; simp at q0 ⊢; exact fun h => q0 h.symm
    go_enter Try.func23, Try.ntmps23
    go_wp2
    go_ret
    exact ⟨ret_bool (by rw [HR.out] <;> simp [*]), (by repeat' (first | (with_reducible exact Below.refl _ _) | (with_reducible (refine Below.setCell ?_ ?_ _)) | (with_reducible (refine Below.alloc ?_ ?_ _)) | (with_reducible (refine Below.drew ?_)) | omega | (simp; done) | (simp; omega)))⟩
  have vm2 : (vme != vmi) = false := by unfold bne; rw [q0]; rfl
  have vm3 : (vmi == vme) = true := by simp at q0 ⊢; exact q0.symm
  go_enter Try.func23, Try.ntmps23
  go_wp2
  go_ret
  exact ⟨ret_bool (by rw [HR.out] <;> simp [*]), (by repeat' (first | (with_reducible exact Below.refl _ _) | (with_reducible (refine Below.setCell ?_ ?_ _)) | (with_reducible (refine Below.alloc ?_ ?_ _)) | (with_reducible (refine Below.drew ?_)) | omega | (simp; done) | (simp; omega)))⟩

set_option maxRecDepth 100000 in
set_option maxHeartbeats 4000000 in
theorem rtakes_2_2 (vmi asi pgi vme ase : Int) (al : Bool) (pe level frame mid : Int) (r dw x af ng : Bool) (soft : Int) (w : World) :
    Calls Try.prog 23 #[.agg #[.int .i64 2, .int .i64 vmi, .int .i64 asi, .int .i64 pgi], .agg #[.int .i64 2, .int .i64 vme, .int .i64 ase, .bool al, .int .i64 pe, .int .i64 level, .int .i64 frame, .int .i64 mid, .bool r, .bool dw, .bool x, .bool af, .bool ng, .int .i64 soft]] w fun y w' => y = .returned (.bool (takesE ⟨2, vmi, asi, pgi⟩ ⟨2, vme, ase, al, pe, level, frame, mid, r, dw, x, af, ng, soft⟩)) ∧ Below w.heap.size w w' := by
  have HR := Lib.hid (show takesE ⟨2, vmi, asi, pgi⟩ ⟨2, vme, ase, al, pe, level, frame, mid, r, dw, x, af, ng, soft⟩ = (vmi == vme && true) from rfl)
  rcases (Bool.eq_false_or_eq_true (vme == vmi)).symm with q0 | q0
  · have vm2 : (vme != vmi) = true := by unfold bne; rw [q0]; rfl
    have vm3 : (vmi == vme) = false := by rw [Bool.eq_false_iff] at q0 ⊢; simp at q0 ⊢; exact fun h => q0 h.symm
    go_enter Try.func23, Try.ntmps23
    go_wp2
    go_ret
    exact ⟨ret_bool (by rw [HR.out] <;> simp [*]), (by repeat' (first | (with_reducible exact Below.refl _ _) | (with_reducible (refine Below.setCell ?_ ?_ _)) | (with_reducible (refine Below.alloc ?_ ?_ _)) | (with_reducible (refine Below.drew ?_)) | omega | (simp; done) | (simp; omega)))⟩
  have vm2 : (vme != vmi) = false := by unfold bne; rw [q0]; rfl
  have vm3 : (vmi == vme) = true := by simp at q0 ⊢; exact q0.symm
  go_enter Try.func23, Try.ntmps23
  go_wp2
  go_ret
  exact ⟨ret_bool (by rw [HR.out] <;> simp [*]), (by repeat' (first | (with_reducible exact Below.refl _ _) | (with_reducible (refine Below.setCell ?_ ?_ _)) | (with_reducible (refine Below.alloc ?_ ?_ _)) | (with_reducible (refine Below.drew ?_)) | omega | (simp; done) | (simp; omega)))⟩

set_option maxRecDepth 100000 in
set_option maxHeartbeats 4000000 in
theorem rtakes_2_3 (vmi asi pgi vme ase : Int) (al : Bool) (pe level frame mid : Int) (r dw x af ng : Bool) (soft : Int) (w : World) :
    Calls Try.prog 23 #[.agg #[.int .i64 2, .int .i64 vmi, .int .i64 asi, .int .i64 pgi], .agg #[.int .i64 3, .int .i64 vme, .int .i64 ase, .bool al, .int .i64 pe, .int .i64 level, .int .i64 frame, .int .i64 mid, .bool r, .bool dw, .bool x, .bool af, .bool ng, .int .i64 soft]] w fun y w' => y = .returned (.bool (takesE ⟨2, vmi, asi, pgi⟩ ⟨3, vme, ase, al, pe, level, frame, mid, r, dw, x, af, ng, soft⟩)) ∧ Below w.heap.size w w' := by
  have HR := Lib.hid (show takesE ⟨2, vmi, asi, pgi⟩ ⟨3, vme, ase, al, pe, level, frame, mid, r, dw, x, af, ng, soft⟩ = (vmi == vme && true) from rfl)
  rcases (Bool.eq_false_or_eq_true (vme == vmi)).symm with q0 | q0
  · have vm2 : (vme != vmi) = true := by unfold bne; rw [q0]; rfl
    have vm3 : (vmi == vme) = false := by rw [Bool.eq_false_iff] at q0 ⊢; simp at q0 ⊢; exact fun h => q0 h.symm
    go_enter Try.func23, Try.ntmps23
    go_wp2
    go_ret
    exact ⟨ret_bool (by rw [HR.out] <;> simp [*]), (by repeat' (first | (with_reducible exact Below.refl _ _) | (with_reducible (refine Below.setCell ?_ ?_ _)) | (with_reducible (refine Below.alloc ?_ ?_ _)) | (with_reducible (refine Below.drew ?_)) | omega | (simp; done) | (simp; omega)))⟩
  have vm2 : (vme != vmi) = false := by unfold bne; rw [q0]; rfl
  have vm3 : (vmi == vme) = true := by simp at q0 ⊢; exact q0.symm
  go_enter Try.func23, Try.ntmps23
  go_wp2
  go_ret
  exact ⟨ret_bool (by rw [HR.out] <;> simp [*]), (by repeat' (first | (with_reducible exact Below.refl _ _) | (with_reducible (refine Below.setCell ?_ ?_ _)) | (with_reducible (refine Below.alloc ?_ ?_ _)) | (with_reducible (refine Below.drew ?_)) | omega | (simp; done) | (simp; omega)))⟩

set_option maxRecDepth 100000 in
set_option maxHeartbeats 4000000 in
theorem rtakes_3_1 (vmi asi pgi vme ase : Int) (al : Bool) (pe level frame mid : Int) (r dw x af ng : Bool) (soft : Int) (w : World) :
    Calls Try.prog 23 #[.agg #[.int .i64 3, .int .i64 vmi, .int .i64 asi, .int .i64 pgi], .agg #[.int .i64 1, .int .i64 vme, .int .i64 ase, .bool al, .int .i64 pe, .int .i64 level, .int .i64 frame, .int .i64 mid, .bool r, .bool dw, .bool x, .bool af, .bool ng, .int .i64 soft]] w fun y w' => y = .returned (.bool (takesE ⟨3, vmi, asi, pgi⟩ ⟨1, vme, ase, al, pe, level, frame, mid, r, dw, x, af, ng, soft⟩)) ∧ Below w.heap.size w w' := by
  have HR := Lib.hid (show takesE ⟨3, vmi, asi, pgi⟩ ⟨1, vme, ase, al, pe, level, frame, mid, r, dw, x, af, ng, soft⟩ = (vmi == vme && true) from rfl)
  rcases (Bool.eq_false_or_eq_true (vme == vmi)).symm with q0 | q0
  · have vm2 : (vme != vmi) = true := by unfold bne; rw [q0]; rfl
    have vm3 : (vmi == vme) = false := by rw [Bool.eq_false_iff] at q0 ⊢; simp at q0 ⊢; exact fun h => q0 h.symm
    go_enter Try.func23, Try.ntmps23
    go_wp2
    go_ret
    exact ⟨ret_bool (by rw [HR.out] <;> simp [*]), (by repeat' (first | (with_reducible exact Below.refl _ _) | (with_reducible (refine Below.setCell ?_ ?_ _)) | (with_reducible (refine Below.alloc ?_ ?_ _)) | (with_reducible (refine Below.drew ?_)) | omega | (simp; done) | (simp; omega)))⟩
  have vm2 : (vme != vmi) = false := by unfold bne; rw [q0]; rfl
  have vm3 : (vmi == vme) = true := by simp at q0 ⊢; exact q0.symm
  go_enter Try.func23, Try.ntmps23
  go_wp2
  go_ret
  exact ⟨ret_bool (by rw [HR.out] <;> simp [*]), (by repeat' (first | (with_reducible exact Below.refl _ _) | (with_reducible (refine Below.setCell ?_ ?_ _)) | (with_reducible (refine Below.alloc ?_ ?_ _)) | (with_reducible (refine Below.drew ?_)) | omega | (simp; done) | (simp; omega)))⟩

set_option maxRecDepth 100000 in
set_option maxHeartbeats 4000000 in
theorem rtakes_3_2 (vmi asi pgi vme ase : Int) (al : Bool) (pe level frame mid : Int) (r dw x af ng : Bool) (soft : Int) (w : World) :
    Calls Try.prog 23 #[.agg #[.int .i64 3, .int .i64 vmi, .int .i64 asi, .int .i64 pgi], .agg #[.int .i64 2, .int .i64 vme, .int .i64 ase, .bool al, .int .i64 pe, .int .i64 level, .int .i64 frame, .int .i64 mid, .bool r, .bool dw, .bool x, .bool af, .bool ng, .int .i64 soft]] w fun y w' => y = .returned (.bool (takesE ⟨3, vmi, asi, pgi⟩ ⟨2, vme, ase, al, pe, level, frame, mid, r, dw, x, af, ng, soft⟩)) ∧ Below w.heap.size w w' := by
  have HR := Lib.hid (show takesE ⟨3, vmi, asi, pgi⟩ ⟨2, vme, ase, al, pe, level, frame, mid, r, dw, x, af, ng, soft⟩ = (vmi == vme && false) from rfl)
  rcases (Bool.eq_false_or_eq_true (vme == vmi)).symm with q0 | q0
  · have vm2 : (vme != vmi) = true := by unfold bne; rw [q0]; rfl
    have vm3 : (vmi == vme) = false := by rw [Bool.eq_false_iff] at q0 ⊢; simp at q0 ⊢; exact fun h => q0 h.symm
    go_enter Try.func23, Try.ntmps23
    go_wp2
    go_ret
    exact ⟨ret_bool (by rw [HR.out] <;> simp [*]), (by repeat' (first | (with_reducible exact Below.refl _ _) | (with_reducible (refine Below.setCell ?_ ?_ _)) | (with_reducible (refine Below.alloc ?_ ?_ _)) | (with_reducible (refine Below.drew ?_)) | omega | (simp; done) | (simp; omega)))⟩
  have vm2 : (vme != vmi) = false := by unfold bne; rw [q0]; rfl
  have vm3 : (vmi == vme) = true := by simp at q0 ⊢; exact q0.symm
  go_enter Try.func23, Try.ntmps23
  go_wp2
  go_ret
  exact ⟨ret_bool (by rw [HR.out] <;> simp [*]), (by repeat' (first | (with_reducible exact Below.refl _ _) | (with_reducible (refine Below.setCell ?_ ?_ _)) | (with_reducible (refine Below.alloc ?_ ?_ _)) | (with_reducible (refine Below.drew ?_)) | omega | (simp; done) | (simp; omega)))⟩

set_option maxRecDepth 100000 in
set_option maxHeartbeats 4000000 in
theorem rtakes_3_3 (vmi asi pgi vme ase : Int) (al : Bool) (pe level frame mid : Int) (r dw x af ng : Bool) (soft : Int) (w : World) :
    Calls Try.prog 23 #[.agg #[.int .i64 3, .int .i64 vmi, .int .i64 asi, .int .i64 pgi], .agg #[.int .i64 3, .int .i64 vme, .int .i64 ase, .bool al, .int .i64 pe, .int .i64 level, .int .i64 frame, .int .i64 mid, .bool r, .bool dw, .bool x, .bool af, .bool ng, .int .i64 soft]] w fun y w' => y = .returned (.bool (takesE ⟨3, vmi, asi, pgi⟩ ⟨3, vme, ase, al, pe, level, frame, mid, r, dw, x, af, ng, soft⟩)) ∧ Below w.heap.size w w' := by
  have HR := Lib.hid (show takesE ⟨3, vmi, asi, pgi⟩ ⟨3, vme, ase, al, pe, level, frame, mid, r, dw, x, af, ng, soft⟩ = (vmi == vme && true) from rfl)
  rcases (Bool.eq_false_or_eq_true (vme == vmi)).symm with q0 | q0
  · have vm2 : (vme != vmi) = true := by unfold bne; rw [q0]; rfl
    have vm3 : (vmi == vme) = false := by rw [Bool.eq_false_iff] at q0 ⊢; simp at q0 ⊢; exact fun h => q0 h.symm
    go_enter Try.func23, Try.ntmps23
    go_wp2
    go_ret
    exact ⟨ret_bool (by rw [HR.out] <;> simp [*]), (by repeat' (first | (with_reducible exact Below.refl _ _) | (with_reducible (refine Below.setCell ?_ ?_ _)) | (with_reducible (refine Below.alloc ?_ ?_ _)) | (with_reducible (refine Below.drew ?_)) | omega | (simp; done) | (simp; omega)))⟩
  have vm2 : (vme != vmi) = false := by unfold bne; rw [q0]; rfl
  have vm3 : (vmi == vme) = true := by simp at q0 ⊢; exact q0.symm
  go_enter Try.func23, Try.ntmps23
  go_wp2
  go_ret
  exact ⟨ret_bool (by rw [HR.out] <;> simp [*]), (by repeat' (first | (with_reducible exact Below.refl _ _) | (with_reducible (refine Below.setCell ?_ ?_ _)) | (with_reducible (refine Below.alloc ?_ ?_ _)) | (with_reducible (refine Below.drew ?_)) | omega | (simp; done) | (simp; omega)))⟩

set_option maxRecDepth 100000 in
set_option maxHeartbeats 4000000 in
theorem rtakes_4_1 (vmi asi pgi vme ase : Int) (al : Bool) (pe level frame mid : Int) (r dw x af ng : Bool) (soft : Int) (w : World) :
    Calls Try.prog 23 #[.agg #[.int .i64 4, .int .i64 vmi, .int .i64 asi, .int .i64 pgi], .agg #[.int .i64 1, .int .i64 vme, .int .i64 ase, .bool al, .int .i64 pe, .int .i64 level, .int .i64 frame, .int .i64 mid, .bool r, .bool dw, .bool x, .bool af, .bool ng, .int .i64 soft]] w fun y w' => y = .returned (.bool (takesE ⟨4, vmi, asi, pgi⟩ ⟨1, vme, ase, al, pe, level, frame, mid, r, dw, x, af, ng, soft⟩)) ∧ Below w.heap.size w w' := by
  have HR := Lib.hid (show takesE ⟨4, vmi, asi, pgi⟩ ⟨1, vme, ase, al, pe, level, frame, mid, r, dw, x, af, ng, soft⟩ = (vmi == vme && (!al && ase == asi)) from rfl)
  rcases (Bool.eq_false_or_eq_true (vme == vmi)).symm with q0 | q0
  · have vm2 : (vme != vmi) = true := by unfold bne; rw [q0]; rfl
    have vm3 : (vmi == vme) = false := by rw [Bool.eq_false_iff] at q0 ⊢; simp at q0 ⊢; exact fun h => q0 h.symm
    go_enter Try.func23, Try.ntmps23
    go_wp2
    go_ret
    exact ⟨ret_bool (by rw [HR.out] <;> simp [*]), (by repeat' (first | (with_reducible exact Below.refl _ _) | (with_reducible (refine Below.setCell ?_ ?_ _)) | (with_reducible (refine Below.alloc ?_ ?_ _)) | (with_reducible (refine Below.drew ?_)) | omega | (simp; done) | (simp; omega)))⟩
  have vm2 : (vme != vmi) = false := by unfold bne; rw [q0]; rfl
  have vm3 : (vmi == vme) = true := by simp at q0 ⊢; exact q0.symm
  cases al
  · go_enter Try.func23, Try.ntmps23
    go_wp2
    go_ret
    exact ⟨ret_bool (by rw [HR.out] <;> simp [*]), (by repeat' (first | (with_reducible exact Below.refl _ _) | (with_reducible (refine Below.setCell ?_ ?_ _)) | (with_reducible (refine Below.alloc ?_ ?_ _)) | (with_reducible (refine Below.drew ?_)) | omega | (simp; done) | (simp; omega)))⟩
  go_enter Try.func23, Try.ntmps23
  go_wp2
  go_ret
  exact ⟨ret_bool (by rw [HR.out] <;> simp [*]), (by repeat' (first | (with_reducible exact Below.refl _ _) | (with_reducible (refine Below.setCell ?_ ?_ _)) | (with_reducible (refine Below.alloc ?_ ?_ _)) | (with_reducible (refine Below.drew ?_)) | omega | (simp; done) | (simp; omega)))⟩

set_option maxRecDepth 100000 in
set_option maxHeartbeats 4000000 in
theorem rtakes_4_2 (vmi asi pgi vme ase : Int) (al : Bool) (pe level frame mid : Int) (r dw x af ng : Bool) (soft : Int) (w : World) :
    Calls Try.prog 23 #[.agg #[.int .i64 4, .int .i64 vmi, .int .i64 asi, .int .i64 pgi], .agg #[.int .i64 2, .int .i64 vme, .int .i64 ase, .bool al, .int .i64 pe, .int .i64 level, .int .i64 frame, .int .i64 mid, .bool r, .bool dw, .bool x, .bool af, .bool ng, .int .i64 soft]] w fun y w' => y = .returned (.bool (takesE ⟨4, vmi, asi, pgi⟩ ⟨2, vme, ase, al, pe, level, frame, mid, r, dw, x, af, ng, soft⟩)) ∧ Below w.heap.size w w' := by
  have HR := Lib.hid (show takesE ⟨4, vmi, asi, pgi⟩ ⟨2, vme, ase, al, pe, level, frame, mid, r, dw, x, af, ng, soft⟩ = (vmi == vme && false) from rfl)
  rcases (Bool.eq_false_or_eq_true (vme == vmi)).symm with q0 | q0
  · have vm2 : (vme != vmi) = true := by unfold bne; rw [q0]; rfl
    have vm3 : (vmi == vme) = false := by rw [Bool.eq_false_iff] at q0 ⊢; simp at q0 ⊢; exact fun h => q0 h.symm
    go_enter Try.func23, Try.ntmps23
    go_wp2
    go_ret
    exact ⟨ret_bool (by rw [HR.out] <;> simp [*]), (by repeat' (first | (with_reducible exact Below.refl _ _) | (with_reducible (refine Below.setCell ?_ ?_ _)) | (with_reducible (refine Below.alloc ?_ ?_ _)) | (with_reducible (refine Below.drew ?_)) | omega | (simp; done) | (simp; omega)))⟩
  have vm2 : (vme != vmi) = false := by unfold bne; rw [q0]; rfl
  have vm3 : (vmi == vme) = true := by simp at q0 ⊢; exact q0.symm
  go_enter Try.func23, Try.ntmps23
  go_wp2
  go_ret
  exact ⟨ret_bool (by rw [HR.out] <;> simp [*]), (by repeat' (first | (with_reducible exact Below.refl _ _) | (with_reducible (refine Below.setCell ?_ ?_ _)) | (with_reducible (refine Below.alloc ?_ ?_ _)) | (with_reducible (refine Below.drew ?_)) | omega | (simp; done) | (simp; omega)))⟩

set_option maxRecDepth 100000 in
set_option maxHeartbeats 4000000 in
theorem rtakes_4_3 (vmi asi pgi vme ase : Int) (al : Bool) (pe level frame mid : Int) (r dw x af ng : Bool) (soft : Int) (w : World) :
    Calls Try.prog 23 #[.agg #[.int .i64 4, .int .i64 vmi, .int .i64 asi, .int .i64 pgi], .agg #[.int .i64 3, .int .i64 vme, .int .i64 ase, .bool al, .int .i64 pe, .int .i64 level, .int .i64 frame, .int .i64 mid, .bool r, .bool dw, .bool x, .bool af, .bool ng, .int .i64 soft]] w fun y w' => y = .returned (.bool (takesE ⟨4, vmi, asi, pgi⟩ ⟨3, vme, ase, al, pe, level, frame, mid, r, dw, x, af, ng, soft⟩)) ∧ Below w.heap.size w w' := by
  have HR := Lib.hid (show takesE ⟨4, vmi, asi, pgi⟩ ⟨3, vme, ase, al, pe, level, frame, mid, r, dw, x, af, ng, soft⟩ = (vmi == vme && (!al && ase == asi)) from rfl)
  rcases (Bool.eq_false_or_eq_true (vme == vmi)).symm with q0 | q0
  · have vm2 : (vme != vmi) = true := by unfold bne; rw [q0]; rfl
    have vm3 : (vmi == vme) = false := by rw [Bool.eq_false_iff] at q0 ⊢; simp at q0 ⊢; exact fun h => q0 h.symm
    go_enter Try.func23, Try.ntmps23
    go_wp2
    go_ret
    exact ⟨ret_bool (by rw [HR.out] <;> simp [*]), (by repeat' (first | (with_reducible exact Below.refl _ _) | (with_reducible (refine Below.setCell ?_ ?_ _)) | (with_reducible (refine Below.alloc ?_ ?_ _)) | (with_reducible (refine Below.drew ?_)) | omega | (simp; done) | (simp; omega)))⟩
  have vm2 : (vme != vmi) = false := by unfold bne; rw [q0]; rfl
  have vm3 : (vmi == vme) = true := by simp at q0 ⊢; exact q0.symm
  cases al
  · go_enter Try.func23, Try.ntmps23
    go_wp2
    go_ret
    exact ⟨ret_bool (by rw [HR.out] <;> simp [*]), (by repeat' (first | (with_reducible exact Below.refl _ _) | (with_reducible (refine Below.setCell ?_ ?_ _)) | (with_reducible (refine Below.alloc ?_ ?_ _)) | (with_reducible (refine Below.drew ?_)) | omega | (simp; done) | (simp; omega)))⟩
  go_enter Try.func23, Try.ntmps23
  go_wp2
  go_ret
  exact ⟨ret_bool (by rw [HR.out] <;> simp [*]), (by repeat' (first | (with_reducible exact Below.refl _ _) | (with_reducible (refine Below.setCell ?_ ?_ _)) | (with_reducible (refine Below.alloc ?_ ?_ _)) | (with_reducible (refine Below.drew ?_)) | omega | (simp; done) | (simp; omega)))⟩

set_option maxRecDepth 100000 in
set_option maxHeartbeats 4000000 in
theorem rtakes_5_1 (vmi asi pgi vme ase : Int) (al : Bool) (pe level frame mid : Int) (r dw x af ng : Bool) (soft : Int) (w : World) :
    Calls Try.prog 23 #[.agg #[.int .i64 5, .int .i64 vmi, .int .i64 asi, .int .i64 pgi], .agg #[.int .i64 1, .int .i64 vme, .int .i64 ase, .bool al, .int .i64 pe, .int .i64 level, .int .i64 frame, .int .i64 mid, .bool r, .bool dw, .bool x, .bool af, .bool ng, .int .i64 soft]] w fun y w' => y = .returned (.bool (takesE ⟨5, vmi, asi, pgi⟩ ⟨1, vme, ase, al, pe, level, frame, mid, r, dw, x, af, ng, soft⟩)) ∧ Below w.heap.size w w' := by
  have HR := Lib.hid (show takesE ⟨5, vmi, asi, pgi⟩ ⟨1, vme, ase, al, pe, level, frame, mid, r, dw, x, af, ng, soft⟩ = (vmi == vme && ((pe == pgi) && (al || ase == asi))) from rfl)
  rcases (Bool.eq_false_or_eq_true (vme == vmi)).symm with q0 | q0
  · have vm2 : (vme != vmi) = true := by unfold bne; rw [q0]; rfl
    have vm3 : (vmi == vme) = false := by rw [Bool.eq_false_iff] at q0 ⊢; simp at q0 ⊢; exact fun h => q0 h.symm
    go_enter Try.func23, Try.ntmps23
    go_wp2
    go_ret
    exact ⟨ret_bool (by rw [HR.out] <;> simp [*]), (by repeat' (first | (with_reducible exact Below.refl _ _) | (with_reducible (refine Below.setCell ?_ ?_ _)) | (with_reducible (refine Below.alloc ?_ ?_ _)) | (with_reducible (refine Below.drew ?_)) | omega | (simp; done) | (simp; omega)))⟩
  have vm2 : (vme != vmi) = false := by unfold bne; rw [q0]; rfl
  have vm3 : (vmi == vme) = true := by simp at q0 ⊢; exact q0.symm
  rcases (Bool.eq_false_or_eq_true (pe == pgi)).symm with q1 | q1
  · go_enter Try.func23, Try.ntmps23
    go_wp2
    go_ret
    exact ⟨ret_bool (by rw [HR.out] <;> simp [*]), (by repeat' (first | (with_reducible exact Below.refl _ _) | (with_reducible (refine Below.setCell ?_ ?_ _)) | (with_reducible (refine Below.alloc ?_ ?_ _)) | (with_reducible (refine Below.drew ?_)) | omega | (simp; done) | (simp; omega)))⟩
  cases al
  · go_enter Try.func23, Try.ntmps23
    go_wp2
    go_ret
    exact ⟨ret_bool (by rw [HR.out] <;> simp [*]), (by repeat' (first | (with_reducible exact Below.refl _ _) | (with_reducible (refine Below.setCell ?_ ?_ _)) | (with_reducible (refine Below.alloc ?_ ?_ _)) | (with_reducible (refine Below.drew ?_)) | omega | (simp; done) | (simp; omega)))⟩
  go_enter Try.func23, Try.ntmps23
  go_wp2
  go_ret
  exact ⟨ret_bool (by rw [HR.out] <;> simp [*]), (by repeat' (first | (with_reducible exact Below.refl _ _) | (with_reducible (refine Below.setCell ?_ ?_ _)) | (with_reducible (refine Below.alloc ?_ ?_ _)) | (with_reducible (refine Below.drew ?_)) | omega | (simp; done) | (simp; omega)))⟩

set_option maxRecDepth 100000 in
set_option maxHeartbeats 4000000 in
theorem rtakes_5_2 (vmi asi pgi vme ase : Int) (al : Bool) (pe level frame mid : Int) (r dw x af ng : Bool) (soft : Int) (w : World) :
    Calls Try.prog 23 #[.agg #[.int .i64 5, .int .i64 vmi, .int .i64 asi, .int .i64 pgi], .agg #[.int .i64 2, .int .i64 vme, .int .i64 ase, .bool al, .int .i64 pe, .int .i64 level, .int .i64 frame, .int .i64 mid, .bool r, .bool dw, .bool x, .bool af, .bool ng, .int .i64 soft]] w fun y w' => y = .returned (.bool (takesE ⟨5, vmi, asi, pgi⟩ ⟨2, vme, ase, al, pe, level, frame, mid, r, dw, x, af, ng, soft⟩)) ∧ Below w.heap.size w w' := by
  have HR := Lib.hid (show takesE ⟨5, vmi, asi, pgi⟩ ⟨2, vme, ase, al, pe, level, frame, mid, r, dw, x, af, ng, soft⟩ = (vmi == vme && false) from rfl)
  rcases (Bool.eq_false_or_eq_true (vme == vmi)).symm with q0 | q0
  · have vm2 : (vme != vmi) = true := by unfold bne; rw [q0]; rfl
    have vm3 : (vmi == vme) = false := by rw [Bool.eq_false_iff] at q0 ⊢; simp at q0 ⊢; exact fun h => q0 h.symm
    go_enter Try.func23, Try.ntmps23
    go_wp2
    go_ret
    exact ⟨ret_bool (by rw [HR.out] <;> simp [*]), (by repeat' (first | (with_reducible exact Below.refl _ _) | (with_reducible (refine Below.setCell ?_ ?_ _)) | (with_reducible (refine Below.alloc ?_ ?_ _)) | (with_reducible (refine Below.drew ?_)) | omega | (simp; done) | (simp; omega)))⟩
  have vm2 : (vme != vmi) = false := by unfold bne; rw [q0]; rfl
  have vm3 : (vmi == vme) = true := by simp at q0 ⊢; exact q0.symm
  go_enter Try.func23, Try.ntmps23
  go_wp2
  go_ret
  exact ⟨ret_bool (by rw [HR.out] <;> simp [*]), (by repeat' (first | (with_reducible exact Below.refl _ _) | (with_reducible (refine Below.setCell ?_ ?_ _)) | (with_reducible (refine Below.alloc ?_ ?_ _)) | (with_reducible (refine Below.drew ?_)) | omega | (simp; done) | (simp; omega)))⟩

set_option maxRecDepth 100000 in
set_option maxHeartbeats 4000000 in
theorem rtakes_5_3 (vmi asi pgi vme ase : Int) (al : Bool) (pe level frame mid : Int) (r dw x af ng : Bool) (soft : Int) (w : World) (cutp : Int) (hcp : cutOf pgi level = cutp) (HAB : Hid (∀ W, Calls Try.prog 67 #[.int .i64 level, .int .i64 pgi] W fun e w' => e = .returned (.int .i64 cutp) ∧ Below W.heap.size W w')) :
    Calls Try.prog 23 #[.agg #[.int .i64 5, .int .i64 vmi, .int .i64 asi, .int .i64 pgi], .agg #[.int .i64 3, .int .i64 vme, .int .i64 ase, .bool al, .int .i64 pe, .int .i64 level, .int .i64 frame, .int .i64 mid, .bool r, .bool dw, .bool x, .bool af, .bool ng, .int .i64 soft]] w fun y w' => y = .returned (.bool (takesE ⟨5, vmi, asi, pgi⟩ ⟨3, vme, ase, al, pe, level, frame, mid, r, dw, x, af, ng, soft⟩)) ∧ Below w.heap.size w w' := by
  have HR := Lib.hid (show takesE ⟨5, vmi, asi, pgi⟩ ⟨3, vme, ase, al, pe, level, frame, mid, r, dw, x, af, ng, soft⟩ = (vmi == vme && ((pe == cutp) && (al || ase == asi))) from (by rw [← hcp]; rfl))
  rcases (Bool.eq_false_or_eq_true (vme == vmi)).symm with q0 | q0
  · have vm2 : (vme != vmi) = true := by unfold bne; rw [q0]; rfl
    have vm3 : (vmi == vme) = false := by rw [Bool.eq_false_iff] at q0 ⊢; simp at q0 ⊢; exact fun h => q0 h.symm
    go_enter Try.func23, Try.ntmps23
    go_wp2
    go_ret
    exact ⟨ret_bool (by rw [HR.out] <;> simp [*]), (by repeat' (first | (with_reducible exact Below.refl _ _) | (with_reducible (refine Below.setCell ?_ ?_ _)) | (with_reducible (refine Below.alloc ?_ ?_ _)) | (with_reducible (refine Below.drew ?_)) | omega | (simp; done) | (simp; omega)))⟩
  have vm2 : (vme != vmi) = false := by unfold bne; rw [q0]; rfl
  have vm3 : (vmi == vme) = true := by simp at q0 ⊢; exact q0.symm
  rcases (Bool.eq_false_or_eq_true (pe == cutp)).symm with q1 | q1
  · go_enter Try.func23, Try.ntmps23
    go_wp2_with fail
    refine wp_region_class (fun w' => Below (w.heap.size + 2) ((w.alloc (.cells #[.int .i64 5, .int .i64 vmi, .int .i64 asi, .int .i64 pgi] invT)).alloc (.cells #[.int .i64 3, .int .i64 vme, .int .i64 ase, .bool al, .int .i64 pe, .int .i64 level, .int .i64 frame, .int .i64 mid, .bool r, .bool dw, .bool x, .bool af, .bool ng, .int .i64 soft] entT)) w') (by kernel_rfl) (by kernel_rfl) (Below.refl _ _).drew ?_
    repeat (first
      | (refine wpLex_pass (by rfl) passes_plain ?_; (conv => arg 9; simp only [put_lit, put_lit_none, List.set]))
      | (refine wpLex_plain (by rfl) ?_
         apply Exists.intro
         refine ⟨?_, ?_⟩
         · intro w' hb
           have hsz := hb.size
           try simp at hsz
           have hcw := fun b o (h : b < w.heap.size + 2) => hb.cell (p := ⟨b, o, none⟩) h
           have hfw := fun b o (h : b < w.heap.size + 2) => hb.frozen (p := ⟨b, o, none⟩) h
           go_simp
           first
             | exact ⟨rfl, hb⟩
             | exact rfl
             | ((with_reducible refine Calls.mono (HAB.out _) ?_); rintro e w2 ⟨rfl, hb2⟩; exact ⟨_, rfl, rfl, hb.trans (hb2.mono hsz)⟩)
         conv => arg 9; simp only [put_lit, put_lit_none, List.set]))
    refine wpLex_nil ?_
    intro wq hbq
    have hsq := hbq.size
    try simp at hsq
    have hcq := fun b o (h : b < w.heap.size + 2) => hbq.cell (p := ⟨b, o, none⟩) h
    have hfq := fun b o (h : b < w.heap.size + 2) => hbq.frozen (p := ⟨b, o, none⟩) h
    have HBq := Lib.hid hbq
    clear hbq
    go_wp2
    go_ret
    exact ⟨ret_bool (by rw [HR.out] <;> simp [*]), (by repeat' (first | (with_reducible exact Below.refl _ _) | (with_reducible (refine Below.setCell ?_ ?_ _)) | (with_reducible (refine Below.alloc ?_ ?_ _)) | (with_reducible (refine Below.drew ?_)) | (with_reducible (refine below_via ?_ HBq.out ?_)) | omega | (simp; done) | (simp; omega)))⟩
  cases al
  · go_enter Try.func23, Try.ntmps23
    go_wp2_with fail
    refine wp_region_class (fun w' => Below (w.heap.size + 2) ((w.alloc (.cells #[.int .i64 5, .int .i64 vmi, .int .i64 asi, .int .i64 pgi] invT)).alloc (.cells #[.int .i64 3, .int .i64 vme, .int .i64 ase, .bool false, .int .i64 pe, .int .i64 level, .int .i64 frame, .int .i64 mid, .bool r, .bool dw, .bool x, .bool af, .bool ng, .int .i64 soft] entT)) w') (by kernel_rfl) (by kernel_rfl) (Below.refl _ _).drew ?_
    repeat (first
      | (refine wpLex_pass (by rfl) passes_plain ?_; (conv => arg 9; simp only [put_lit, put_lit_none, List.set]))
      | (refine wpLex_plain (by rfl) ?_
         apply Exists.intro
         refine ⟨?_, ?_⟩
         · intro w' hb
           have hsz := hb.size
           try simp at hsz
           have hcw := fun b o (h : b < w.heap.size + 2) => hb.cell (p := ⟨b, o, none⟩) h
           have hfw := fun b o (h : b < w.heap.size + 2) => hb.frozen (p := ⟨b, o, none⟩) h
           go_simp
           first
             | exact ⟨rfl, hb⟩
             | exact rfl
             | ((with_reducible refine Calls.mono (HAB.out _) ?_); rintro e w2 ⟨rfl, hb2⟩; exact ⟨_, rfl, rfl, hb.trans (hb2.mono hsz)⟩)
         conv => arg 9; simp only [put_lit, put_lit_none, List.set]))
    refine wpLex_nil ?_
    intro wq hbq
    have hsq := hbq.size
    try simp at hsq
    have hcq := fun b o (h : b < w.heap.size + 2) => hbq.cell (p := ⟨b, o, none⟩) h
    have hfq := fun b o (h : b < w.heap.size + 2) => hbq.frozen (p := ⟨b, o, none⟩) h
    have HBq := Lib.hid hbq
    clear hbq
    go_wp2
    go_ret
    exact ⟨ret_bool (by rw [HR.out] <;> simp [*]), (by repeat' (first | (with_reducible exact Below.refl _ _) | (with_reducible (refine Below.setCell ?_ ?_ _)) | (with_reducible (refine Below.alloc ?_ ?_ _)) | (with_reducible (refine Below.drew ?_)) | (with_reducible (refine below_via ?_ HBq.out ?_)) | omega | (simp; done) | (simp; omega)))⟩
  go_enter Try.func23, Try.ntmps23
  go_wp2_with fail
  refine wp_region_class (fun w' => Below (w.heap.size + 2) ((w.alloc (.cells #[.int .i64 5, .int .i64 vmi, .int .i64 asi, .int .i64 pgi] invT)).alloc (.cells #[.int .i64 3, .int .i64 vme, .int .i64 ase, .bool true, .int .i64 pe, .int .i64 level, .int .i64 frame, .int .i64 mid, .bool r, .bool dw, .bool x, .bool af, .bool ng, .int .i64 soft] entT)) w') (by kernel_rfl) (by kernel_rfl) (Below.refl _ _).drew ?_
  repeat (first
    | (refine wpLex_pass (by rfl) passes_plain ?_; (conv => arg 9; simp only [put_lit, put_lit_none, List.set]))
    | (refine wpLex_plain (by rfl) ?_
       apply Exists.intro
       refine ⟨?_, ?_⟩
       · intro w' hb
         have hsz := hb.size
         try simp at hsz
         have hcw := fun b o (h : b < w.heap.size + 2) => hb.cell (p := ⟨b, o, none⟩) h
         have hfw := fun b o (h : b < w.heap.size + 2) => hb.frozen (p := ⟨b, o, none⟩) h
         go_simp
         first
           | exact ⟨rfl, hb⟩
           | exact rfl
           | ((with_reducible refine Calls.mono (HAB.out _) ?_); rintro e w2 ⟨rfl, hb2⟩; exact ⟨_, rfl, rfl, hb.trans (hb2.mono hsz)⟩)
       conv => arg 9; simp only [put_lit, put_lit_none, List.set]))
  refine wpLex_nil ?_
  intro wq hbq
  have hsq := hbq.size
  try simp at hsq
  have hcq := fun b o (h : b < w.heap.size + 2) => hbq.cell (p := ⟨b, o, none⟩) h
  have hfq := fun b o (h : b < w.heap.size + 2) => hbq.frozen (p := ⟨b, o, none⟩) h
  have HBq := Lib.hid hbq
  clear hbq
  go_wp2
  go_ret
  exact ⟨ret_bool (by rw [HR.out] <;> simp [*]), (by repeat' (first | (with_reducible exact Below.refl _ _) | (with_reducible (refine Below.setCell ?_ ?_ _)) | (with_reducible (refine Below.alloc ?_ ?_ _)) | (with_reducible (refine Below.drew ?_)) | (with_reducible (refine below_via ?_ HBq.out ?_)) | omega | (simp; done) | (simp; omega)))⟩

set_option maxRecDepth 100000 in
set_option maxHeartbeats 4000000 in
theorem rtakes_6_1 (ki vmi asi pgi vme ase : Int) (al : Bool) (pe level frame mid : Int) (r dw x af ng : Bool) (soft : Int) (w : World) (h1 : ki ≠ 1) (h2 : ki ≠ 2) (h3 : ki ≠ 3) (h4 : ki ≠ 4) (h5 : ki ≠ 5) :
    Calls Try.prog 23 #[.agg #[.int .i64 ki, .int .i64 vmi, .int .i64 asi, .int .i64 pgi], .agg #[.int .i64 1, .int .i64 vme, .int .i64 ase, .bool al, .int .i64 pe, .int .i64 level, .int .i64 frame, .int .i64 mid, .bool r, .bool dw, .bool x, .bool af, .bool ng, .int .i64 soft]] w fun y w' => y = .returned (.bool (takesE ⟨ki, vmi, asi, pgi⟩ ⟨1, vme, ase, al, pe, level, frame, mid, r, dw, x, af, ng, soft⟩)) ∧ Below w.heap.size w w' := by
  have HR := Lib.hid (show takesE ⟨ki, vmi, asi, pgi⟩ ⟨1, vme, ase, al, pe, level, frame, mid, r, dw, x, af, ng, soft⟩ = (vmi == vme && false) from (by unfold takesE; dsimp only; rw [if_neg h1, if_neg h2, if_neg h3, if_neg h4, if_neg h5]; rfl))
  have k1 : (ki == 1) = false := by simpa using h1
  have k2 : (ki == 2) = false := by simpa using h2
  have k3 : (ki == 3) = false := by simpa using h3
  have k4 : (ki == 4) = false := by simpa using h4
  have k5 : (ki == 5) = false := by simpa using h5
  clear h1 h2 h3 h4 h5
  rcases (Bool.eq_false_or_eq_true (vme == vmi)).symm with q0 | q0
  · have vm2 : (vme != vmi) = true := by unfold bne; rw [q0]; rfl
    have vm3 : (vmi == vme) = false := by rw [Bool.eq_false_iff] at q0 ⊢; simp at q0 ⊢; exact fun h => q0 h.symm
    go_enter Try.func23, Try.ntmps23
    go_wp2
    go_ret
    exact ⟨ret_bool (by rw [HR.out] <;> simp [*]), (by repeat' (first | (with_reducible exact Below.refl _ _) | (with_reducible (refine Below.setCell ?_ ?_ _)) | (with_reducible (refine Below.alloc ?_ ?_ _)) | (with_reducible (refine Below.drew ?_)) | omega | (simp; done) | (simp; omega)))⟩
  have vm2 : (vme != vmi) = false := by unfold bne; rw [q0]; rfl
  have vm3 : (vmi == vme) = true := by simp at q0 ⊢; exact q0.symm
  go_enter Try.func23, Try.ntmps23
  go_wp2
  go_ret
  exact ⟨ret_bool (by rw [HR.out] <;> simp [*]), (by repeat' (first | (with_reducible exact Below.refl _ _) | (with_reducible (refine Below.setCell ?_ ?_ _)) | (with_reducible (refine Below.alloc ?_ ?_ _)) | (with_reducible (refine Below.drew ?_)) | omega | (simp; done) | (simp; omega)))⟩

set_option maxRecDepth 100000 in
set_option maxHeartbeats 4000000 in
theorem rtakes_6_2 (ki vmi asi pgi vme ase : Int) (al : Bool) (pe level frame mid : Int) (r dw x af ng : Bool) (soft : Int) (w : World) (h1 : ki ≠ 1) (h2 : ki ≠ 2) (h3 : ki ≠ 3) (h4 : ki ≠ 4) (h5 : ki ≠ 5) :
    Calls Try.prog 23 #[.agg #[.int .i64 ki, .int .i64 vmi, .int .i64 asi, .int .i64 pgi], .agg #[.int .i64 2, .int .i64 vme, .int .i64 ase, .bool al, .int .i64 pe, .int .i64 level, .int .i64 frame, .int .i64 mid, .bool r, .bool dw, .bool x, .bool af, .bool ng, .int .i64 soft]] w fun y w' => y = .returned (.bool (takesE ⟨ki, vmi, asi, pgi⟩ ⟨2, vme, ase, al, pe, level, frame, mid, r, dw, x, af, ng, soft⟩)) ∧ Below w.heap.size w w' := by
  have HR := Lib.hid (show takesE ⟨ki, vmi, asi, pgi⟩ ⟨2, vme, ase, al, pe, level, frame, mid, r, dw, x, af, ng, soft⟩ = (vmi == vme && (pe == pgi)) from (by unfold takesE; dsimp only; rw [if_neg h1, if_neg h2, if_neg h3, if_neg h4, if_neg h5]; rfl))
  have k1 : (ki == 1) = false := by simpa using h1
  have k2 : (ki == 2) = false := by simpa using h2
  have k3 : (ki == 3) = false := by simpa using h3
  have k4 : (ki == 4) = false := by simpa using h4
  have k5 : (ki == 5) = false := by simpa using h5
  clear h1 h2 h3 h4 h5
  rcases (Bool.eq_false_or_eq_true (vme == vmi)).symm with q0 | q0
  · have vm2 : (vme != vmi) = true := by unfold bne; rw [q0]; rfl
    have vm3 : (vmi == vme) = false := by rw [Bool.eq_false_iff] at q0 ⊢; simp at q0 ⊢; exact fun h => q0 h.symm
    go_enter Try.func23, Try.ntmps23
    go_wp2
    go_ret
    exact ⟨ret_bool (by rw [HR.out] <;> simp [*]), (by repeat' (first | (with_reducible exact Below.refl _ _) | (with_reducible (refine Below.setCell ?_ ?_ _)) | (with_reducible (refine Below.alloc ?_ ?_ _)) | (with_reducible (refine Below.drew ?_)) | omega | (simp; done) | (simp; omega)))⟩
  have vm2 : (vme != vmi) = false := by unfold bne; rw [q0]; rfl
  have vm3 : (vmi == vme) = true := by simp at q0 ⊢; exact q0.symm
  go_enter Try.func23, Try.ntmps23
  go_wp2
  go_ret
  exact ⟨ret_bool (by rw [HR.out] <;> simp [*]), (by repeat' (first | (with_reducible exact Below.refl _ _) | (with_reducible (refine Below.setCell ?_ ?_ _)) | (with_reducible (refine Below.alloc ?_ ?_ _)) | (with_reducible (refine Below.drew ?_)) | omega | (simp; done) | (simp; omega)))⟩

set_option maxRecDepth 100000 in
set_option maxHeartbeats 4000000 in
theorem rtakes_6_3 (ki vmi asi pgi vme ase : Int) (al : Bool) (pe level frame mid : Int) (r dw x af ng : Bool) (soft : Int) (w : World) (h1 : ki ≠ 1) (h2 : ki ≠ 2) (h3 : ki ≠ 3) (h4 : ki ≠ 4) (h5 : ki ≠ 5) :
    Calls Try.prog 23 #[.agg #[.int .i64 ki, .int .i64 vmi, .int .i64 asi, .int .i64 pgi], .agg #[.int .i64 3, .int .i64 vme, .int .i64 ase, .bool al, .int .i64 pe, .int .i64 level, .int .i64 frame, .int .i64 mid, .bool r, .bool dw, .bool x, .bool af, .bool ng, .int .i64 soft]] w fun y w' => y = .returned (.bool (takesE ⟨ki, vmi, asi, pgi⟩ ⟨3, vme, ase, al, pe, level, frame, mid, r, dw, x, af, ng, soft⟩)) ∧ Below w.heap.size w w' := by
  have HR := Lib.hid (show takesE ⟨ki, vmi, asi, pgi⟩ ⟨3, vme, ase, al, pe, level, frame, mid, r, dw, x, af, ng, soft⟩ = (vmi == vme && false) from (by unfold takesE; dsimp only; rw [if_neg h1, if_neg h2, if_neg h3, if_neg h4, if_neg h5]; rfl))
  have k1 : (ki == 1) = false := by simpa using h1
  have k2 : (ki == 2) = false := by simpa using h2
  have k3 : (ki == 3) = false := by simpa using h3
  have k4 : (ki == 4) = false := by simpa using h4
  have k5 : (ki == 5) = false := by simpa using h5
  clear h1 h2 h3 h4 h5
  rcases (Bool.eq_false_or_eq_true (vme == vmi)).symm with q0 | q0
  · have vm2 : (vme != vmi) = true := by unfold bne; rw [q0]; rfl
    have vm3 : (vmi == vme) = false := by rw [Bool.eq_false_iff] at q0 ⊢; simp at q0 ⊢; exact fun h => q0 h.symm
    go_enter Try.func23, Try.ntmps23
    go_wp2
    go_ret
    exact ⟨ret_bool (by rw [HR.out] <;> simp [*]), (by repeat' (first | (with_reducible exact Below.refl _ _) | (with_reducible (refine Below.setCell ?_ ?_ _)) | (with_reducible (refine Below.alloc ?_ ?_ _)) | (with_reducible (refine Below.drew ?_)) | omega | (simp; done) | (simp; omega)))⟩
  have vm2 : (vme != vmi) = false := by unfold bne; rw [q0]; rfl
  have vm3 : (vmi == vme) = true := by simp at q0 ⊢; exact q0.symm
  go_enter Try.func23, Try.ntmps23
  go_wp2
  go_ret
  exact ⟨ret_bool (by rw [HR.out] <;> simp [*]), (by repeat' (first | (with_reducible exact Below.refl _ _) | (with_reducible (refine Below.setCell ?_ ?_ _)) | (with_reducible (refine Below.alloc ?_ ?_ _)) | (with_reducible (refine Below.drew ?_)) | omega | (simp; done) | (simp; omega)))⟩

theorem rtakes_any (i : Inv) (e : Ent) (w : World) (h : entOk e = true) (h0 : 0 ≤ i.page) (h1 : i.page ≤ 4095) :
    Calls Try.prog 23 #[.agg i.cells.toArray, .agg e.cells.toArray] w fun y w' => y = .returned (.bool (takesE i e)) ∧ Below w.heap.size w w' := by
  obtain ⟨_, hk, hl, _⟩ := entOk_parts h
  clear h
  obtain ⟨ke, vme, ase, al, pe, level, frame, mid, r, dw, x, af, ng, soft⟩ := e
  obtain ⟨ki, vmi, asi, pgi⟩ := i
  dsimp only [Ent.cells, Inv.cells] at *
  by_cases k1 : ki = 1
  · subst k1
    rcases hk with rfl | rfl | rfl
    · exact rtakes_1_1 vmi asi pgi vme ase al pe level frame mid r dw x af ng soft w
    · exact rtakes_1_2 vmi asi pgi vme ase al pe level frame mid r dw x af ng soft w
    · exact rtakes_1_3 vmi asi pgi vme ase al pe level frame mid r dw x af ng soft w
  by_cases k2 : ki = 2
  · subst k2
    rcases hk with rfl | rfl | rfl
    · exact rtakes_2_1 vmi asi pgi vme ase al pe level frame mid r dw x af ng soft w
    · exact rtakes_2_2 vmi asi pgi vme ase al pe level frame mid r dw x af ng soft w
    · exact rtakes_2_3 vmi asi pgi vme ase al pe level frame mid r dw x af ng soft w
  by_cases k3 : ki = 3
  · subst k3
    rcases hk with rfl | rfl | rfl
    · exact rtakes_3_1 vmi asi pgi vme ase al pe level frame mid r dw x af ng soft w
    · exact rtakes_3_2 vmi asi pgi vme ase al pe level frame mid r dw x af ng soft w
    · exact rtakes_3_3 vmi asi pgi vme ase al pe level frame mid r dw x af ng soft w
  by_cases k4 : ki = 4
  · subst k4
    rcases hk with rfl | rfl | rfl
    · exact rtakes_4_1 vmi asi pgi vme ase al pe level frame mid r dw x af ng soft w
    · exact rtakes_4_2 vmi asi pgi vme ase al pe level frame mid r dw x af ng soft w
    · exact rtakes_4_3 vmi asi pgi vme ase al pe level frame mid r dw x af ng soft w
  by_cases k5 : ki = 5
  · subst k5
    rcases hk with rfl | rfl | rfl
    · exact rtakes_5_1 vmi asi pgi vme ase al pe level frame mid r dw x af ng soft w
    · exact rtakes_5_2 vmi asi pgi vme ase al pe level frame mid r dw x af ng soft w
    · exact rtakes_5_3 vmi asi pgi vme ase al pe level frame mid r dw x af ng soft w _ rfl (Lib.hid fun W => above_any level pgi (hl rfl).1 (hl rfl).2 h0 h1 W)
  rcases hk with rfl | rfl | rfl
  · exact rtakes_6_1 ki vmi asi pgi vme ase al pe level frame mid r dw x af ng soft w k1 k2 k3 k4 k5
  · exact rtakes_6_2 ki vmi asi pgi vme ase al pe level frame mid r dw x af ng soft w k1 k2 k3 k4 k5
  · exact rtakes_6_3 ki vmi asi pgi vme ase al pe level frame mid r dw x af ng soft w k1 k2 k3 k4 k5

end Go.Proofs.Ytbaninglcafhhaa
