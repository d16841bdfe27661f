/-
  Whether an entry may be: the page's answer. Conditions: none.
-/
import Derived.Test.YtbaninglcafhhaaEntB
namespace Go.Proofs.Ytbaninglcafhhaa
open Go.RowKit

set_option maxRecDepth 100000 in
set_option maxHeartbeats 8000000 in
theorem rent_no (kind vmid asid : Int) (al : Bool) (page level frame mid : Int) (r dw x af ng : Bool) (soft : Int) (w : World) (h : (numOk vmid 15 && (numOk asid 15 && (numOk page 4095 && (numOk frame 4095 && (numOk mid 4095 && soft == 0))))) = false) :
    Calls Try.prog 22 #[.agg #[.int .i64 kind, .int .i64 vmid, .int .i64 asid, .bool al, .int .i64 page, .int .i64 level, .int .i64 frame, .int .i64 mid, .bool r, .bool dw, .bool x, .bool af, .bool ng, .int .i64 soft]] w fun e w' => e = .returned (.bool (entOk ⟨kind, vmid, asid, al, page, level, frame, mid, r, dw, x, af, ng, soft⟩)) ∧ Below w.heap.size w w' := by
  have HR := Lib.hid (show entOk ⟨kind, vmid, asid, al, page, level, frame, mid, r, dw, x, af, ng, soft⟩ = false by unfold entOk; dsimp only; rw [h]; rfl)
  have HT := Lib.hid (fun n W => tag_any n W)
  have HP := Lib.hid (fun n W => page_any n W)
  rcases (Bool.eq_false_or_eq_true (numOk vmid 15)).symm with q0 | q0
  · clear h
    go_enter Try.func22, Try.ntmps22
    go_wp2_with (first | (go_at_call 53; refine (HT.out _ _).mono ?_; rintro e w' ⟨rfl, rfl⟩) | (go_at_call 54; refine (HP.out _ _).mono ?_; rintro e w' ⟨rfl, rfl⟩))
    go_ret
    exact ⟨ret_bool HR.out.symm, (by repeat' (first | (with_reducible exact Below.refl _ _) | (with_reducible (refine Below.setCell ?_ ?_ _)) | (with_reducible (refine Below.alloc ?_ ?_ _)) | (with_reducible (refine Below.drew ?_)) | omega | (simp; done) | (simp; omega)))⟩
  rcases (Bool.eq_false_or_eq_true (numOk asid 15)).symm with q1 | q1
  · clear h
    go_enter Try.func22, Try.ntmps22
    go_wp2_with (first | (go_at_call 53; refine (HT.out _ _).mono ?_; rintro e w' ⟨rfl, rfl⟩) | (go_at_call 54; refine (HP.out _ _).mono ?_; rintro e w' ⟨rfl, rfl⟩))
    go_ret
    exact ⟨ret_bool HR.out.symm, (by repeat' (first | (with_reducible exact Below.refl _ _) | (with_reducible (refine Below.setCell ?_ ?_ _)) | (with_reducible (refine Below.alloc ?_ ?_ _)) | (with_reducible (refine Below.drew ?_)) | omega | (simp; done) | (simp; omega)))⟩
  rcases (Bool.eq_false_or_eq_true (numOk page 4095)).symm with q2 | q2
  · clear h
    go_enter Try.func22, Try.ntmps22
    go_wp2_with (first | (go_at_call 53; refine (HT.out _ _).mono ?_; rintro e w' ⟨rfl, rfl⟩) | (go_at_call 54; refine (HP.out _ _).mono ?_; rintro e w' ⟨rfl, rfl⟩))
    go_ret
    exact ⟨ret_bool HR.out.symm, (by repeat' (first | (with_reducible exact Below.refl _ _) | (with_reducible (refine Below.setCell ?_ ?_ _)) | (with_reducible (refine Below.alloc ?_ ?_ _)) | (with_reducible (refine Below.drew ?_)) | omega | (simp; done) | (simp; omega)))⟩
  rcases (Bool.eq_false_or_eq_true (numOk frame 4095)).symm with q3 | q3
  · clear h
    go_enter Try.func22, Try.ntmps22
    go_wp2_with (first | (go_at_call 53; refine (HT.out _ _).mono ?_; rintro e w' ⟨rfl, rfl⟩) | (go_at_call 54; refine (HP.out _ _).mono ?_; rintro e w' ⟨rfl, rfl⟩))
    go_ret
    exact ⟨ret_bool HR.out.symm, (by repeat' (first | (with_reducible exact Below.refl _ _) | (with_reducible (refine Below.setCell ?_ ?_ _)) | (with_reducible (refine Below.alloc ?_ ?_ _)) | (with_reducible (refine Below.drew ?_)) | omega | (simp; done) | (simp; omega)))⟩
  rcases (Bool.eq_false_or_eq_true (numOk mid 4095)).symm with q4 | q4
  · clear h
    go_enter Try.func22, Try.ntmps22
    go_wp2_with (first | (go_at_call 53; refine (HT.out _ _).mono ?_; rintro e w' ⟨rfl, rfl⟩) | (go_at_call 54; refine (HP.out _ _).mono ?_; rintro e w' ⟨rfl, rfl⟩))
    go_ret
    exact ⟨ret_bool HR.out.symm, (by repeat' (first | (with_reducible exact Below.refl _ _) | (with_reducible (refine Below.setCell ?_ ?_ _)) | (with_reducible (refine Below.alloc ?_ ?_ _)) | (with_reducible (refine Below.drew ?_)) | omega | (simp; done) | (simp; omega)))⟩
  have hs : (soft != 0) = true := by
    rw [q0, q1, q2, q3, q4] at h
    unfold bne
    simpa using h
  clear h
  go_enter Try.func22, Try.ntmps22
  go_wp2_with (first | (go_at_call 53; refine (HT.out _ _).mono ?_; rintro e w' ⟨rfl, rfl⟩) | (go_at_call 54; refine (HP.out _ _).mono ?_; rintro e w' ⟨rfl, rfl⟩))
  go_ret
  exact ⟨ret_bool HR.out.symm, (by repeat' (first | (with_reducible exact Below.refl _ _) | (with_reducible (refine Below.setCell ?_ ?_ _)) | (with_reducible (refine Below.alloc ?_ ?_ _)) | (with_reducible (refine Below.drew ?_)) | omega | (simp; done) | (simp; omega)))⟩

set_option maxRecDepth 100000 in
set_option maxHeartbeats 8000000 in
theorem rent_one (vmid asid : Int) (al : Bool) (page level frame mid : Int) (r dw x af ng : Bool) (soft : Int) (w : World) (h : (numOk vmid 15 && (numOk asid 15 && (numOk page 4095 && (numOk frame 4095 && (numOk mid 4095 && soft == 0))))) = true) :
    Calls Try.prog 22 #[.agg #[.int .i64 1, .int .i64 vmid, .int .i64 asid, .bool al, .int .i64 page, .int .i64 level, .int .i64 frame, .int .i64 mid, .bool r, .bool dw, .bool x, .bool af, .bool ng, .int .i64 soft]] w fun e w' => e = .returned (.bool (entOk ⟨1, vmid, asid, al, page, level, frame, mid, r, dw, x, af, ng, soft⟩)) ∧ Below w.heap.size w w' := by
  have HR := Lib.hid (show entOk ⟨1, vmid, asid, al, page, level, frame, mid, r, dw, x, af, ng, soft⟩ = (level == 0) by unfold entOk; dsimp only; rw [h]; rfl)
  have HT := Lib.hid (fun n W => tag_any n W)
  have HP := Lib.hid (fun n W => page_any n W)
  simp only [Bool.and_eq_true] at h
  obtain ⟨v0, v1, v2, v3, v4, v5⟩ := h
  have vs : (soft != 0) = false := by unfold bne; rw [v5]; rfl
  have hpg : 0 ≤ page ∧ page ≤ 4095 := by simpa [numOk] using v2
  obtain ⟨hpg0, hpg1⟩ := hpg
  clear v5
  go_enter Try.func22, Try.ntmps22
  go_wp2_with (first | (go_at_call 53; refine (HT.out _ _).mono ?_; rintro e w' ⟨rfl, rfl⟩) | (go_at_call 54; refine (HP.out _ _).mono ?_; rintro e w' ⟨rfl, rfl⟩))
  go_ret
  exact ⟨ret_bool (by rw [HR.out] <;> simp [*]), (by repeat' (first | (with_reducible exact Below.refl _ _) | (with_reducible (refine Below.setCell ?_ ?_ _)) | (with_reducible (refine Below.alloc ?_ ?_ _)) | (with_reducible (refine Below.drew ?_)) | omega | (simp; done) | (simp; omega)))⟩

set_option maxRecDepth 100000 in
set_option maxHeartbeats 8000000 in
theorem rent_two (vmid asid : Int) (al : Bool) (page level frame mid : Int) (r dw x af ng : Bool) (soft : Int) (w : World) (h : (numOk vmid 15 && (numOk asid 15 && (numOk page 4095 && (numOk frame 4095 && (numOk mid 4095 && soft == 0))))) = true) :
    Calls Try.prog 22 #[.agg #[.int .i64 2, .int .i64 vmid, .int .i64 asid, .bool al, .int .i64 page, .int .i64 level, .int .i64 frame, .int .i64 mid, .bool r, .bool dw, .bool x, .bool af, .bool ng, .int .i64 soft]] w fun e w' => e = .returned (.bool (entOk ⟨2, vmid, asid, al, page, level, frame, mid, r, dw, x, af, ng, soft⟩)) ∧ Below w.heap.size w w' := by
  have HR := Lib.hid (show entOk ⟨2, vmid, asid, al, page, level, frame, mid, r, dw, x, af, ng, soft⟩ = (asid == 0 && (al && (level == 0 && (mid == 0 && !ng)))) by unfold entOk; dsimp only; rw [h]; rfl)
  have HT := Lib.hid (fun n W => tag_any n W)
  have HP := Lib.hid (fun n W => page_any n W)
  simp only [Bool.and_eq_true] at h
  obtain ⟨v0, v1, v2, v3, v4, v5⟩ := h
  have vs : (soft != 0) = false := by unfold bne; rw [v5]; rfl
  have hpg : 0 ≤ page ∧ page ≤ 4095 := by simpa [numOk] using v2
  obtain ⟨hpg0, hpg1⟩ := hpg
  clear v5
  rcases (Bool.eq_false_or_eq_true (asid == 0)).symm with q0 | q0
  · go_enter Try.func22, Try.ntmps22
    go_wp2_with (first | (go_at_call 53; refine (HT.out _ _).mono ?_; rintro e w' ⟨rfl, rfl⟩) | (go_at_call 54; refine (HP.out _ _).mono ?_; rintro e w' ⟨rfl, rfl⟩))
    go_ret
    exact ⟨ret_bool (by rw [HR.out] <;> simp [*]), (by repeat' (first | (with_reducible exact Below.refl _ _) | (with_reducible (refine Below.setCell ?_ ?_ _)) | (with_reducible (refine Below.alloc ?_ ?_ _)) | (with_reducible (refine Below.drew ?_)) | omega | (simp; done) | (simp; omega)))⟩
  rcases (Bool.eq_false_or_eq_true (al)).symm with q1 | q1
  · go_enter Try.func22, Try.ntmps22
    go_wp2_with (first | (go_at_call 53; refine (HT.out _ _).mono ?_; rintro e w' ⟨rfl, rfl⟩) | (go_at_call 54; refine (HP.out _ _).mono ?_; rintro e w' ⟨rfl, rfl⟩))
    go_ret
    exact ⟨ret_bool (by rw [HR.out] <;> simp [*]), (by repeat' (first | (with_reducible exact Below.refl _ _) | (with_reducible (refine Below.setCell ?_ ?_ _)) | (with_reducible (refine Below.alloc ?_ ?_ _)) | (with_reducible (refine Below.drew ?_)) | omega | (simp; done) | (simp; omega)))⟩
  rcases (Bool.eq_false_or_eq_true (level == 0)).symm with q2 | q2
  · go_enter Try.func22, Try.ntmps22
    go_wp2_with (first | (go_at_call 53; refine (HT.out _ _).mono ?_; rintro e w' ⟨rfl, rfl⟩) | (go_at_call 54; refine (HP.out _ _).mono ?_; rintro e w' ⟨rfl, rfl⟩))
    go_ret
    exact ⟨ret_bool (by rw [HR.out] <;> simp [*]), (by repeat' (first | (with_reducible exact Below.refl _ _) | (with_reducible (refine Below.setCell ?_ ?_ _)) | (with_reducible (refine Below.alloc ?_ ?_ _)) | (with_reducible (refine Below.drew ?_)) | omega | (simp; done) | (simp; omega)))⟩
  rcases (Bool.eq_false_or_eq_true (mid == 0)).symm with q3 | q3
  · go_enter Try.func22, Try.ntmps22
    go_wp2_with (first | (go_at_call 53; refine (HT.out _ _).mono ?_; rintro e w' ⟨rfl, rfl⟩) | (go_at_call 54; refine (HP.out _ _).mono ?_; rintro e w' ⟨rfl, rfl⟩))
    go_ret
    exact ⟨ret_bool (by rw [HR.out] <;> simp [*]), (by repeat' (first | (with_reducible exact Below.refl _ _) | (with_reducible (refine Below.setCell ?_ ?_ _)) | (with_reducible (refine Below.alloc ?_ ?_ _)) | (with_reducible (refine Below.drew ?_)) | omega | (simp; done) | (simp; omega)))⟩
  go_enter Try.func22, Try.ntmps22
  go_wp2_with (first | (go_at_call 53; refine (HT.out _ _).mono ?_; rintro e w' ⟨rfl, rfl⟩) | (go_at_call 54; refine (HP.out _ _).mono ?_; rintro e w' ⟨rfl, rfl⟩))
  go_ret
  exact ⟨ret_bool (by rw [HR.out] <;> simp [*]), (by repeat' (first | (with_reducible exact Below.refl _ _) | (with_reducible (refine Below.setCell ?_ ?_ _)) | (with_reducible (refine Below.alloc ?_ ?_ _)) | (with_reducible (refine Below.drew ?_)) | omega | (simp; done) | (simp; omega)))⟩

set_option maxRecDepth 100000 in
set_option maxHeartbeats 8000000 in
theorem rent_else (kind vmid asid : Int) (al : Bool) (page level frame mid : Int) (r dw x af ng : Bool) (soft : Int) (w : World) (h : (numOk vmid 15 && (numOk asid 15 && (numOk page 4095 && (numOk frame 4095 && (numOk mid 4095 && soft == 0))))) = true) (hk : kind ≠ 1 ∧ kind ≠ 2 ∧ kind ≠ 3) :
    Calls Try.prog 22 #[.agg #[.int .i64 kind, .int .i64 vmid, .int .i64 asid, .bool al, .int .i64 page, .int .i64 level, .int .i64 frame, .int .i64 mid, .bool r, .bool dw, .bool x, .bool af, .bool ng, .int .i64 soft]] w fun e w' => e = .returned (.bool (entOk ⟨kind, vmid, asid, al, page, level, frame, mid, r, dw, x, af, ng, soft⟩)) ∧ Below w.heap.size w w' := by
  have HR := Lib.hid (show entOk ⟨kind, vmid, asid, al, page, level, frame, mid, r, dw, x, af, ng, soft⟩ = false by unfold entOk; dsimp only; rw [h]; rw [if_neg hk.1, if_neg hk.2.1, if_neg hk.2.2]; rfl)
  have HT := Lib.hid (fun n W => tag_any n W)
  have HP := Lib.hid (fun n W => page_any n W)
  simp only [Bool.and_eq_true] at h
  obtain ⟨v0, v1, v2, v3, v4, v5⟩ := h
  have vs : (soft != 0) = false := by unfold bne; rw [v5]; rfl
  have hpg : 0 ≤ page ∧ page ≤ 4095 := by simpa [numOk] using v2
  obtain ⟨hpg0, hpg1⟩ := hpg
  clear v5
  obtain ⟨k1, k2, k3⟩ := hk
  have k1 : (kind == 1) = false := by simpa using k1
  have k2 : (kind == 2) = false := by simpa using k2
  have k3 : (kind == 3) = false := by simpa using k3
  go_enter Try.func22, Try.ntmps22
  go_wp2_with (first | (go_at_call 53; refine (HT.out _ _).mono ?_; rintro e w' ⟨rfl, rfl⟩) | (go_at_call 54; refine (HP.out _ _).mono ?_; rintro e w' ⟨rfl, rfl⟩))
  go_ret
  exact ⟨ret_bool (by rw [HR.out]), (by repeat' (first | (with_reducible exact Below.refl _ _) | (with_reducible (refine Below.setCell ?_ ?_ _)) | (with_reducible (refine Below.alloc ?_ ?_ _)) | (with_reducible (refine Below.drew ?_)) | omega | (simp; done) | (simp; omega)))⟩

set_option maxRecDepth 100000 in
set_option maxHeartbeats 8000000 in
theorem rent_three (vmid asid : Int) (al : Bool) (page level frame mid : Int) (r dw x af ng : Bool) (soft : Int) (w : World) (h : (numOk vmid 15 && (numOk asid 15 && (numOk page 4095 && (numOk frame 4095 && (numOk mid 4095 && soft == 0))))) = true) :
    Calls Try.prog 22 #[.agg #[.int .i64 3, .int .i64 vmid, .int .i64 asid, .bool al, .int .i64 page, .int .i64 level, .int .i64 frame, .int .i64 mid, .bool r, .bool dw, .bool x, .bool af, .bool ng, .int .i64 soft]] w fun e w' => e = .returned (.bool (entOk ⟨3, vmid, asid, al, page, level, frame, mid, r, dw, x, af, ng, soft⟩)) ∧ Below w.heap.size w w' := by
  have HR := Lib.hid (show entOk ⟨3, vmid, asid, al, page, level, frame, mid, r, dw, x, af, ng, soft⟩ = (decide (1 ≤ level) && (decide (level ≤ 3) && (cutOf page level == page && (mid == 0 && (!r && (!dw && (!x && (!af && (!ng && soft == 0))))))))) by unfold entOk bare; dsimp only; rw [h, show (cutOf page level == page) = (page == cutOf page level) by rw [Bool.eq_iff_iff, beq_iff_eq, beq_iff_eq]; exact eq_comm]; rfl)
  have HT := Lib.hid (fun n W => tag_any n W)
  have HP := Lib.hid (fun n W => page_any n W)
  simp only [Bool.and_eq_true] at h
  obtain ⟨v0, v1, v2, v3, v4, v5⟩ := h
  have vs : (soft != 0) = false := by unfold bne; rw [v5]; rfl
  have hpg : 0 ≤ page ∧ page ≤ 4095 := by simpa [numOk] using v2
  obtain ⟨hpg0, hpg1⟩ := hpg
  clear v5
  rcases (Bool.eq_false_or_eq_true (decide (1 ≤ level))).symm with q0 | q0
  · go_enter Try.func22, Try.ntmps22
    go_wp2_with (first | (go_at_call 53; refine (HT.out _ _).mono ?_; rintro e w' ⟨rfl, rfl⟩) | (go_at_call 54; refine (HP.out _ _).mono ?_; rintro e w' ⟨rfl, rfl⟩))
    refine wp_region_class (fun w' => Below (w.heap.size + 1) (w.alloc (.cells #[.int .i64 3, .int .i64 vmid, .int .i64 asid, .bool al, .int .i64 page, .int .i64 level, .int .i64 frame, .int .i64 mid, .bool r, .bool dw, .bool x, .bool af, .bool ng, .int .i64 soft] entT)) w') (by kernel_rfl) (by kernel_rfl) (Below.refl _ _).drew ?_
    repeat (first
      | (refine wpLex_pass (by rfl) passes_plain ?_; (conv => arg 9; simp only [put_lit, put_lit_none, List.set]))
      | (refine wpLex_plain (by rfl) ?_
         apply Exists.intro
         refine ⟨?_, ?_⟩
         · intro w' hb
           have hsz := hb.size
           try simp at hsz
           have hcw := fun b o (h : b < w.heap.size + 1) => hb.cell (p := ⟨b, o, none⟩) h
           have hfw := fun b o (h : b < w.heap.size + 1) => hb.frozen (p := ⟨b, o, none⟩) h
           go_simp
           first
             | exact ⟨rfl, hb⟩
             | exact rfl
         conv => arg 9; simp only [put_lit, put_lit_none, List.set]))
    refine wpLex_nil ?_
    intro wp hbp
    have hsp := hbp.size
    try simp at hsp
    have hcp := fun b o (h : b < w.heap.size + 1) => hbp.cell (p := ⟨b, o, none⟩) h
    have hfp := fun b o (h : b < w.heap.size + 1) => hbp.frozen (p := ⟨b, o, none⟩) h
    have HBp := Lib.hid hbp
    clear hbp
    go_wp2
    go_ret
    exact ⟨ret_bool (by rw [HR.out] <;> simp [*]), (by repeat' (first | (with_reducible exact Below.refl _ _) | (with_reducible (refine Below.setCell ?_ ?_ _)) | (with_reducible (refine Below.alloc ?_ ?_ _)) | (with_reducible (refine Below.drew ?_)) | (with_reducible (refine below_via ?_ HBp.out ?_)) | omega | (simp; done) | (simp; omega)))⟩
  rcases (Bool.eq_false_or_eq_true (decide (level ≤ 3))).symm with q1 | q1
  · go_enter Try.func22, Try.ntmps22
    go_wp2_with (first | (go_at_call 53; refine (HT.out _ _).mono ?_; rintro e w' ⟨rfl, rfl⟩) | (go_at_call 54; refine (HP.out _ _).mono ?_; rintro e w' ⟨rfl, rfl⟩))
    refine wp_region_class (fun w' => Below (w.heap.size + 1) (w.alloc (.cells #[.int .i64 3, .int .i64 vmid, .int .i64 asid, .bool al, .int .i64 page, .int .i64 level, .int .i64 frame, .int .i64 mid, .bool r, .bool dw, .bool x, .bool af, .bool ng, .int .i64 soft] entT)) w') (by kernel_rfl) (by kernel_rfl) (Below.refl _ _).drew ?_
    repeat (first
      | (refine wpLex_pass (by rfl) passes_plain ?_; (conv => arg 9; simp only [put_lit, put_lit_none, List.set]))
      | (refine wpLex_plain (by rfl) ?_
         apply Exists.intro
         refine ⟨?_, ?_⟩
         · intro w' hb
           have hsz := hb.size
           try simp at hsz
           have hcw := fun b o (h : b < w.heap.size + 1) => hb.cell (p := ⟨b, o, none⟩) h
           have hfw := fun b o (h : b < w.heap.size + 1) => hb.frozen (p := ⟨b, o, none⟩) h
           go_simp
           first
             | exact ⟨rfl, hb⟩
             | exact rfl
         conv => arg 9; simp only [put_lit, put_lit_none, List.set]))
    refine wpLex_nil ?_
    intro wp hbp
    have hsp := hbp.size
    try simp at hsp
    have hcp := fun b o (h : b < w.heap.size + 1) => hbp.cell (p := ⟨b, o, none⟩) h
    have hfp := fun b o (h : b < w.heap.size + 1) => hbp.frozen (p := ⟨b, o, none⟩) h
    have HBp := Lib.hid hbp
    clear hbp
    go_wp2
    go_ret
    exact ⟨ret_bool (by rw [HR.out] <;> simp [*]), (by repeat' (first | (with_reducible exact Below.refl _ _) | (with_reducible (refine Below.setCell ?_ ?_ _)) | (with_reducible (refine Below.alloc ?_ ?_ _)) | (with_reducible (refine Below.drew ?_)) | (with_reducible (refine below_via ?_ HBp.out ?_)) | omega | (simp; done) | (simp; omega)))⟩
  have HB := Lib.hid (fun W => above_any level page (by simpa using q0) (by simpa using q1) hpg0 hpg1 W)
  generalize cutOf page level = ct at *
  have he := fun W => run_eql_bare r dw x af ng soft W
  rcases (Bool.eq_false_or_eq_true (ct == page)).symm with q0 | q0
  · go_enter Try.func22, Try.ntmps22
    go_wp2_with (first | (go_at_call 53; refine (HT.out _ _).mono ?_; rintro e w' ⟨rfl, rfl⟩) | (go_at_call 54; refine (HP.out _ _).mono ?_; rintro e w' ⟨rfl, rfl⟩))
    refine wp_region_class (fun w' => Below (w.heap.size + 1) (w.alloc (.cells #[.int .i64 3, .int .i64 vmid, .int .i64 asid, .bool al, .int .i64 page, .int .i64 level, .int .i64 frame, .int .i64 mid, .bool r, .bool dw, .bool x, .bool af, .bool ng, .int .i64 soft] entT)) w') (by kernel_rfl) (by kernel_rfl) (Below.refl _ _).drew ?_
    repeat (first
      | (refine wpLex_pass (by rfl) passes_plain ?_; (conv => arg 9; simp only [put_lit, put_lit_none, List.set]))
      | (refine wpLex_plain (by rfl) ?_
         apply Exists.intro
         refine ⟨?_, ?_⟩
         · intro w' hb
           have hsz := hb.size
           try simp at hsz
           have hcw := fun b o (h : b < w.heap.size + 1) => hb.cell (p := ⟨b, o, none⟩) h
           have hfw := fun b o (h : b < w.heap.size + 1) => hb.frozen (p := ⟨b, o, none⟩) h
           go_simp
           first
             | exact ⟨rfl, hb⟩
             | exact rfl
             | ((with_reducible refine Calls.mono (HB.out _) ?_); rintro e w2 ⟨rfl, hb2⟩; exact ⟨_, rfl, rfl, hb.trans (hb2.mono hsz)⟩)
         conv => arg 9; simp only [put_lit, put_lit_none, List.set]))
    refine wpLex_nil ?_
    intro wp hbp
    have hsp := hbp.size
    try simp at hsp
    have hcp := fun b o (h : b < w.heap.size + 1) => hbp.cell (p := ⟨b, o, none⟩) h
    have hfp := fun b o (h : b < w.heap.size + 1) => hbp.frozen (p := ⟨b, o, none⟩) h
    have HBp := Lib.hid hbp
    clear hbp
    go_wp2
    go_ret
    exact ⟨ret_bool (by rw [HR.out] <;> simp [*]), (by repeat' (first | (with_reducible exact Below.refl _ _) | (with_reducible (refine Below.setCell ?_ ?_ _)) | (with_reducible (refine Below.alloc ?_ ?_ _)) | (with_reducible (refine Below.drew ?_)) | (with_reducible (refine below_via ?_ HBp.out ?_)) | omega | (simp; done) | (simp; omega)))⟩
  rcases (Bool.eq_false_or_eq_true (mid == 0)).symm with q1 | q1
  · go_enter Try.func22, Try.ntmps22
    go_wp2_with (first | (go_at_call 53; refine (HT.out _ _).mono ?_; rintro e w' ⟨rfl, rfl⟩) | (go_at_call 54; refine (HP.out _ _).mono ?_; rintro e w' ⟨rfl, rfl⟩))
    refine wp_region_class (fun w' => Below (w.heap.size + 1) (w.alloc (.cells #[.int .i64 3, .int .i64 vmid, .int .i64 asid, .bool al, .int .i64 page, .int .i64 level, .int .i64 frame, .int .i64 mid, .bool r, .bool dw, .bool x, .bool af, .bool ng, .int .i64 soft] entT)) w') (by kernel_rfl) (by kernel_rfl) (Below.refl _ _).drew ?_
    repeat (first
      | (refine wpLex_pass (by rfl) passes_plain ?_; (conv => arg 9; simp only [put_lit, put_lit_none, List.set]))
      | (refine wpLex_plain (by rfl) ?_
         apply Exists.intro
         refine ⟨?_, ?_⟩
         · intro w' hb
           have hsz := hb.size
           try simp at hsz
           have hcw := fun b o (h : b < w.heap.size + 1) => hb.cell (p := ⟨b, o, none⟩) h
           have hfw := fun b o (h : b < w.heap.size + 1) => hb.frozen (p := ⟨b, o, none⟩) h
           go_simp
           first
             | exact ⟨rfl, hb⟩
             | exact rfl
             | ((with_reducible refine Calls.mono (HB.out _) ?_); rintro e w2 ⟨rfl, hb2⟩; exact ⟨_, rfl, rfl, hb.trans (hb2.mono hsz)⟩)
         conv => arg 9; simp only [put_lit, put_lit_none, List.set]))
    refine wpLex_nil ?_
    intro wp hbp
    have hsp := hbp.size
    try simp at hsp
    have hcp := fun b o (h : b < w.heap.size + 1) => hbp.cell (p := ⟨b, o, none⟩) h
    have hfp := fun b o (h : b < w.heap.size + 1) => hbp.frozen (p := ⟨b, o, none⟩) h
    have HBp := Lib.hid hbp
    clear hbp
    go_wp2
    go_ret
    exact ⟨ret_bool (by rw [HR.out] <;> simp [*]), (by repeat' (first | (with_reducible exact Below.refl _ _) | (with_reducible (refine Below.setCell ?_ ?_ _)) | (with_reducible (refine Below.alloc ?_ ?_ _)) | (with_reducible (refine Below.drew ?_)) | (with_reducible (refine below_via ?_ HBp.out ?_)) | omega | (simp; done) | (simp; omega)))⟩
  go_enter Try.func22, Try.ntmps22
  go_wp2_with (first | (go_at_call 53; refine (HT.out _ _).mono ?_; rintro e w' ⟨rfl, rfl⟩) | (go_at_call 54; refine (HP.out _ _).mono ?_; rintro e w' ⟨rfl, rfl⟩))
  refine wp_region_class (fun w' => Below (w.heap.size + 1) (w.alloc (.cells #[.int .i64 3, .int .i64 vmid, .int .i64 asid, .bool al, .int .i64 page, .int .i64 level, .int .i64 frame, .int .i64 mid, .bool r, .bool dw, .bool x, .bool af, .bool ng, .int .i64 soft] entT)) w') (by kernel_rfl) (by kernel_rfl) (Below.refl _ _).drew ?_
  repeat (first
    | (refine wpLex_pass (by rfl) passes_plain ?_; (conv => arg 9; simp only [put_lit, put_lit_none, List.set]))
    | (refine wpLex_plain (by rfl) ?_
       apply Exists.intro
       refine ⟨?_, ?_⟩
       · intro w' hb
         have hsz := hb.size
         try simp at hsz
         have hcw := fun b o (h : b < w.heap.size + 1) => hb.cell (p := ⟨b, o, none⟩) h
         have hfw := fun b o (h : b < w.heap.size + 1) => hb.frozen (p := ⟨b, o, none⟩) h
         go_simp
         first
           | exact ⟨rfl, hb⟩
           | exact rfl
           | ((with_reducible refine Calls.mono (HB.out _) ?_); rintro e w2 ⟨rfl, hb2⟩; exact ⟨_, rfl, rfl, hb.trans (hb2.mono hsz)⟩)
       conv => arg 9; simp only [put_lit, put_lit_none, List.set]))
  refine wpLex_nil ?_
  intro wp hbp
  have hsp := hbp.size
  try simp at hsp
  have hcp := fun b o (h : b < w.heap.size + 1) => hbp.cell (p := ⟨b, o, none⟩) h
  have hfp := fun b o (h : b < w.heap.size + 1) => hbp.frozen (p := ⟨b, o, none⟩) h
  have HBp := Lib.hid hbp
  clear hbp
  go_wp2
  go_ret
  exact ⟨ret_bool (by rw [HR.out] <;> simp [*]), (by repeat' (first | (with_reducible exact Below.refl _ _) | (with_reducible (refine Below.setCell ?_ ?_ _)) | (with_reducible (refine Below.alloc ?_ ?_ _)) | (with_reducible (refine Below.drew ?_)) | (with_reducible (refine below_via ?_ HBp.out ?_)) | omega | (simp; done) | (simp; omega)))⟩

theorem rent_any (e : Ent) (w : World) :
    Calls Try.prog 22 #[.agg e.cells.toArray] w fun x w' => x = .returned (.bool (entOk e)) ∧ Below w.heap.size w w' := by
  obtain ⟨kind, vmid, asid, al, page, level, frame, mid, r, dw, x, af, ng, soft⟩ := e
  rcases (Bool.eq_false_or_eq_true (numOk vmid 15 && (numOk asid 15 && (numOk page 4095 && (numOk frame 4095 && (numOk mid 4095 && soft == 0)))))).symm with h | h
  · exact rent_no kind vmid asid al page level frame mid r dw x af ng soft w h
  by_cases k1 : kind = 1
  · subst k1
    exact rent_one vmid asid al page level frame mid r dw x af ng soft w h
  by_cases k2 : kind = 2
  · subst k2
    exact rent_two vmid asid al page level frame mid r dw x af ng soft w h
  by_cases k3 : kind = 3
  · subst k3
    exact rent_three vmid asid al page level frame mid r dw x af ng soft w h
  · exact rent_else kind vmid asid al page level frame mid r dw x af ng soft w h ⟨k1, k2, k3⟩

end Go.Proofs.Ytbaninglcafhhaa
