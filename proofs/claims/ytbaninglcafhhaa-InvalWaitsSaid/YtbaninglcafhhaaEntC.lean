/-
  Whether an entry of a table may be, and any entry: the program's answer. Conditions: none.
-/
import Derived.Test.YtbaninglcafhhaaEntB
namespace Go.Proofs.Ytbaninglcafhhaa
open Go.RowKit

set_option maxRecDepth 100000 in
set_option maxHeartbeats 8000000 in
theorem emay_three (vmid asid : Int) (al : Bool) (page level frame mid : Int) (r dw x af ng : Bool) (soft : Int) (w : World) (h : (numOk vmid 15 && (numOk asid 15 && (numOk page 4095 && (numOk frame 4095 && (numOk mid 4095 && soft == 0))))) = true) :
    Calls Try.prog 68 #[.agg #[.int .i64 3, .int .i64 vmid, .int .i64 asid, .bool al, .int .i64 page, .int .i64 level, .int .i64 frame, .int .i64 mid, .bool r, .bool dw, .bool x, .bool af, .bool ng, .int .i64 soft]] w fun e w' => e = .returned (.bool (entOk ⟨3, vmid, asid, al, page, level, frame, mid, r, dw, x, af, ng, soft⟩)) ∧ Below w.heap.size w w' := by
  have HR := Lib.hid (show entOk ⟨3, vmid, asid, al, page, level, frame, mid, r, dw, x, af, ng, soft⟩ = (decide (1 ≤ level) && (decide (level < 4) && (page == cutOf page level && (mid == 0 && (!r && (!dw && (!x && (!af && (!ng && soft == 0))))))))) by unfold entOk bare; dsimp only; rw [h, show decide (level < 4) = decide (level ≤ 3) by rw [decide_eq_decide]; omega]; rfl)
  simp only [Bool.and_eq_true] at h
  obtain ⟨v0, v1, v2, v3, v4, v5⟩ := h
  have H2 := Lib.hid (fun (W : World) b t hb => win2 15 vmid asid W b t hb)
  have H3 := Lib.hid (fun (W : World) b t hb => win3 4095 page frame mid W b t hb)
  rw [v0, v1] at H2
  rw [v2, v3, v4] at H3
  have vs : (soft != 0) = false := by unfold bne; rw [v5]; rfl
  have hpg : 0 ≤ page ∧ page ≤ 4095 := by simpa [numOk] using v2
  obtain ⟨hpg0, hpg1⟩ := hpg
  clear v0 v1 v2 v3 v4 v5
  rcases (Bool.eq_false_or_eq_true (decide (1 ≤ level))).symm with q0 | q0
  · go_enter Try.func68, Try.ntmps68
    go_wp2_with fail
    refine Calls.mono (H2.out _ _ _ (by simp)) ?_
    rintro e w1 ⟨rfl, hb1⟩
    have hs1 := hb1.size
    try simp at hs1
    have hc1_0 := fun o => (bcell hb1).1 (w.heap.size) o (by first | omega | (simp; done) | (simp; omega))
    have hf1_0 := fun o => (bcell hb1).2.1 (w.heap.size) o (by first | omega | (simp; done) | (simp; omega))
    have hz1_0 := (bcell hb1).2.2 (w.heap.size) (by first | omega | (simp; done) | (simp; omega))
    have HB1 := Lib.hid hb1
    clear hb1
    go_wp2_with fail
    refine Calls.mono (H3.out _ _ _ (by simp)) ?_
    rintro e w2 ⟨rfl, hb2⟩
    have hs2 := hb2.size
    try simp at hs2
    have hc2_0 := fun o => (bcell hb2).1 (w.heap.size) o (by first | omega | (simp; done) | (simp; omega))
    have hf2_0 := fun o => (bcell hb2).2.1 (w.heap.size) o (by first | omega | (simp; done) | (simp; omega))
    have hz2_0 := (bcell hb2).2.2 (w.heap.size) (by first | omega | (simp; done) | (simp; omega))
    have HB2 := Lib.hid hb2
    clear hb2
    go_wp2_with fail
    refine wp_region_class (fun w' => Below (w2.heap.size) (w2) w') (by kernel_rfl) (by kernel_rfl) (Below.refl _ _).drew ?_
    repeat (first
      | (refine wpLex_pass (by rfl) passes_plain ?_; (conv => arg 9; simp only [put_lit, put_lit_none, List.set]))
      | (refine wpLex_plain (by rfl) ?_
         apply Exists.intro
         refine ⟨?_, ?_⟩
         · intro w' hb
           have hsz := hb.size
           try simp at hsz
           have hcw := fun b o (h : b < w2.heap.size) => hb.cell (p := ⟨b, o, none⟩) h
           have hfw := fun b o (h : b < w2.heap.size) => hb.frozen (p := ⟨b, o, none⟩) h
           go_simp
           first
             | exact ⟨rfl, hb⟩
             | exact rfl
         conv => arg 9; simp only [put_lit, put_lit_none, List.set]))
    refine wpLex_nil ?_
    intro wp hbp
    have hsp := hbp.size
    try simp at hsp
    have hcp := fun b o (h : b < w2.heap.size) => hbp.cell (p := ⟨b, o, none⟩) h
    have hfp := fun b o (h : b < w2.heap.size) => hbp.frozen (p := ⟨b, o, none⟩) h
    have HBp := Lib.hid hbp
    clear hbp
    go_wp2
    go_ret
    exact ⟨ret_bool (by rw [HR.out] <;> simp [*]), (by repeat' (first | (with_reducible exact Below.refl _ _) | (with_reducible (refine Below.setCell ?_ ?_ _)) | (with_reducible (refine Below.alloc ?_ ?_ _)) | (with_reducible (refine Below.drew ?_)) | (with_reducible (refine below_via ?_ HBp.out ?_)) | (with_reducible (refine below_via ?_ HB2.out ?_)) | (with_reducible (refine below_via ?_ HB1.out ?_)) | omega | (simp; done) | (simp; omega)))⟩
  rcases (Bool.eq_false_or_eq_true (decide (level < 4))).symm with q1 | q1
  · go_enter Try.func68, Try.ntmps68
    go_wp2_with fail
    refine Calls.mono (H2.out _ _ _ (by simp)) ?_
    rintro e w1 ⟨rfl, hb1⟩
    have hs1 := hb1.size
    try simp at hs1
    have hc1_0 := fun o => (bcell hb1).1 (w.heap.size) o (by first | omega | (simp; done) | (simp; omega))
    have hf1_0 := fun o => (bcell hb1).2.1 (w.heap.size) o (by first | omega | (simp; done) | (simp; omega))
    have hz1_0 := (bcell hb1).2.2 (w.heap.size) (by first | omega | (simp; done) | (simp; omega))
    have HB1 := Lib.hid hb1
    clear hb1
    go_wp2_with fail
    refine Calls.mono (H3.out _ _ _ (by simp)) ?_
    rintro e w2 ⟨rfl, hb2⟩
    have hs2 := hb2.size
    try simp at hs2
    have hc2_0 := fun o => (bcell hb2).1 (w.heap.size) o (by first | omega | (simp; done) | (simp; omega))
    have hf2_0 := fun o => (bcell hb2).2.1 (w.heap.size) o (by first | omega | (simp; done) | (simp; omega))
    have hz2_0 := (bcell hb2).2.2 (w.heap.size) (by first | omega | (simp; done) | (simp; omega))
    have HB2 := Lib.hid hb2
    clear hb2
    go_wp2_with fail
    refine wp_region_class (fun w' => Below (w2.heap.size) (w2) w') (by kernel_rfl) (by kernel_rfl) (Below.refl _ _).drew ?_
    repeat (first
      | (refine wpLex_pass (by rfl) passes_plain ?_; (conv => arg 9; simp only [put_lit, put_lit_none, List.set]))
      | (refine wpLex_plain (by rfl) ?_
         apply Exists.intro
         refine ⟨?_, ?_⟩
         · intro w' hb
           have hsz := hb.size
           try simp at hsz
           have hcw := fun b o (h : b < w2.heap.size) => hb.cell (p := ⟨b, o, none⟩) h
           have hfw := fun b o (h : b < w2.heap.size) => hb.frozen (p := ⟨b, o, none⟩) h
           go_simp
           first
             | exact ⟨rfl, hb⟩
             | exact rfl
         conv => arg 9; simp only [put_lit, put_lit_none, List.set]))
    refine wpLex_nil ?_
    intro wp hbp
    have hsp := hbp.size
    try simp at hsp
    have hcp := fun b o (h : b < w2.heap.size) => hbp.cell (p := ⟨b, o, none⟩) h
    have hfp := fun b o (h : b < w2.heap.size) => hbp.frozen (p := ⟨b, o, none⟩) h
    have HBp := Lib.hid hbp
    clear hbp
    go_wp2
    go_ret
    exact ⟨ret_bool (by rw [HR.out] <;> simp [*]), (by repeat' (first | (with_reducible exact Below.refl _ _) | (with_reducible (refine Below.setCell ?_ ?_ _)) | (with_reducible (refine Below.alloc ?_ ?_ _)) | (with_reducible (refine Below.drew ?_)) | (with_reducible (refine below_via ?_ HBp.out ?_)) | (with_reducible (refine below_via ?_ HB2.out ?_)) | (with_reducible (refine below_via ?_ HB1.out ?_)) | omega | (simp; done) | (simp; omega)))⟩
  have hl1 : 1 ≤ level := by simpa using q0
  have hl4 : level < 4 := by simpa using q1
  have HBASE := Lib.hid (fun W => base_any page level hpg0 hpg1 hl1 (by omega) W)
  generalize cutOf page level = ct at *
  have he := fun W => run_eql_bare r dw x af ng soft W
  rcases (Bool.eq_false_or_eq_true (page == ct)).symm with q0 | q0
  · go_enter Try.func68, Try.ntmps68
    go_wp2_with fail
    refine Calls.mono (H2.out _ _ _ (by simp)) ?_
    rintro e w1 ⟨rfl, hb1⟩
    have hs1 := hb1.size
    try simp at hs1
    have hc1_0 := fun o => (bcell hb1).1 (w.heap.size) o (by first | omega | (simp; done) | (simp; omega))
    have hf1_0 := fun o => (bcell hb1).2.1 (w.heap.size) o (by first | omega | (simp; done) | (simp; omega))
    have hz1_0 := (bcell hb1).2.2 (w.heap.size) (by first | omega | (simp; done) | (simp; omega))
    have HB1 := Lib.hid hb1
    clear hb1
    go_wp2_with fail
    refine Calls.mono (H3.out _ _ _ (by simp)) ?_
    rintro e w2 ⟨rfl, hb2⟩
    have hs2 := hb2.size
    try simp at hs2
    have hc2_0 := fun o => (bcell hb2).1 (w.heap.size) o (by first | omega | (simp; done) | (simp; omega))
    have hf2_0 := fun o => (bcell hb2).2.1 (w.heap.size) o (by first | omega | (simp; done) | (simp; omega))
    have hz2_0 := (bcell hb2).2.2 (w.heap.size) (by first | omega | (simp; done) | (simp; omega))
    have HB2 := Lib.hid hb2
    clear hb2
    go_wp2_with fail
    refine wp_region_class (fun w' => Below (w2.heap.size) (w2) w') (by kernel_rfl) (by kernel_rfl) (Below.refl _ _).drew ?_
    repeat (first
      | (refine wpLex_pass (by rfl) passes_plain ?_; (conv => arg 9; simp only [put_lit, put_lit_none, List.set]))
      | (refine wpLex_plain (by rfl) ?_
         apply Exists.intro
         refine ⟨?_, ?_⟩
         · intro w' hb
           have hsz := hb.size
           try simp at hsz
           have hcw := fun b o (h : b < w2.heap.size) => hb.cell (p := ⟨b, o, none⟩) h
           have hfw := fun b o (h : b < w2.heap.size) => hb.frozen (p := ⟨b, o, none⟩) h
           go_simp
           first
             | exact ⟨rfl, hb⟩
             | exact rfl
             | ((with_reducible refine Calls.mono (HBASE.out _) ?_); rintro e w2 ⟨rfl, rfl⟩; exact ⟨_, rfl, rfl, hb⟩)
         conv => arg 9; simp only [put_lit, put_lit_none, List.set]))
    refine wpLex_nil ?_
    intro wp hbp
    have hsp := hbp.size
    try simp at hsp
    have hcp := fun b o (h : b < w2.heap.size) => hbp.cell (p := ⟨b, o, none⟩) h
    have hfp := fun b o (h : b < w2.heap.size) => hbp.frozen (p := ⟨b, o, none⟩) h
    have HBp := Lib.hid hbp
    clear hbp
    go_wp2
    go_ret
    exact ⟨ret_bool (by rw [HR.out] <;> simp [*]), (by repeat' (first | (with_reducible exact Below.refl _ _) | (with_reducible (refine Below.setCell ?_ ?_ _)) | (with_reducible (refine Below.alloc ?_ ?_ _)) | (with_reducible (refine Below.drew ?_)) | (with_reducible (refine below_via ?_ HBp.out ?_)) | (with_reducible (refine below_via ?_ HB2.out ?_)) | (with_reducible (refine below_via ?_ HB1.out ?_)) | omega | (simp; done) | (simp; omega)))⟩
  rcases (Bool.eq_false_or_eq_true (mid == 0)).symm with q1 | q1
  · go_enter Try.func68, Try.ntmps68
    go_wp2_with fail
    refine Calls.mono (H2.out _ _ _ (by simp)) ?_
    rintro e w1 ⟨rfl, hb1⟩
    have hs1 := hb1.size
    try simp at hs1
    have hc1_0 := fun o => (bcell hb1).1 (w.heap.size) o (by first | omega | (simp; done) | (simp; omega))
    have hf1_0 := fun o => (bcell hb1).2.1 (w.heap.size) o (by first | omega | (simp; done) | (simp; omega))
    have hz1_0 := (bcell hb1).2.2 (w.heap.size) (by first | omega | (simp; done) | (simp; omega))
    have HB1 := Lib.hid hb1
    clear hb1
    go_wp2_with fail
    refine Calls.mono (H3.out _ _ _ (by simp)) ?_
    rintro e w2 ⟨rfl, hb2⟩
    have hs2 := hb2.size
    try simp at hs2
    have hc2_0 := fun o => (bcell hb2).1 (w.heap.size) o (by first | omega | (simp; done) | (simp; omega))
    have hf2_0 := fun o => (bcell hb2).2.1 (w.heap.size) o (by first | omega | (simp; done) | (simp; omega))
    have hz2_0 := (bcell hb2).2.2 (w.heap.size) (by first | omega | (simp; done) | (simp; omega))
    have HB2 := Lib.hid hb2
    clear hb2
    go_wp2_with fail
    refine wp_region_class (fun w' => Below (w2.heap.size) (w2) w') (by kernel_rfl) (by kernel_rfl) (Below.refl _ _).drew ?_
    repeat (first
      | (refine wpLex_pass (by rfl) passes_plain ?_; (conv => arg 9; simp only [put_lit, put_lit_none, List.set]))
      | (refine wpLex_plain (by rfl) ?_
         apply Exists.intro
         refine ⟨?_, ?_⟩
         · intro w' hb
           have hsz := hb.size
           try simp at hsz
           have hcw := fun b o (h : b < w2.heap.size) => hb.cell (p := ⟨b, o, none⟩) h
           have hfw := fun b o (h : b < w2.heap.size) => hb.frozen (p := ⟨b, o, none⟩) h
           go_simp
           first
             | exact ⟨rfl, hb⟩
             | exact rfl
             | ((with_reducible refine Calls.mono (HBASE.out _) ?_); rintro e w2 ⟨rfl, rfl⟩; exact ⟨_, rfl, rfl, hb⟩)
         conv => arg 9; simp only [put_lit, put_lit_none, List.set]))
    refine wpLex_nil ?_
    intro wp hbp
    have hsp := hbp.size
    try simp at hsp
    have hcp := fun b o (h : b < w2.heap.size) => hbp.cell (p := ⟨b, o, none⟩) h
    have hfp := fun b o (h : b < w2.heap.size) => hbp.frozen (p := ⟨b, o, none⟩) h
    have HBp := Lib.hid hbp
    clear hbp
    go_wp2
    go_ret
    exact ⟨ret_bool (by rw [HR.out] <;> simp [*]), (by repeat' (first | (with_reducible exact Below.refl _ _) | (with_reducible (refine Below.setCell ?_ ?_ _)) | (with_reducible (refine Below.alloc ?_ ?_ _)) | (with_reducible (refine Below.drew ?_)) | (with_reducible (refine below_via ?_ HBp.out ?_)) | (with_reducible (refine below_via ?_ HB2.out ?_)) | (with_reducible (refine below_via ?_ HB1.out ?_)) | omega | (simp; done) | (simp; omega)))⟩
  go_enter Try.func68, Try.ntmps68
  go_wp2_with fail
  refine Calls.mono (H2.out _ _ _ (by simp)) ?_
  rintro e w1 ⟨rfl, hb1⟩
  have hs1 := hb1.size
  try simp at hs1
  have hc1_0 := fun o => (bcell hb1).1 (w.heap.size) o (by first | omega | (simp; done) | (simp; omega))
  have hf1_0 := fun o => (bcell hb1).2.1 (w.heap.size) o (by first | omega | (simp; done) | (simp; omega))
  have hz1_0 := (bcell hb1).2.2 (w.heap.size) (by first | omega | (simp; done) | (simp; omega))
  have HB1 := Lib.hid hb1
  clear hb1
  go_wp2_with fail
  refine Calls.mono (H3.out _ _ _ (by simp)) ?_
  rintro e w2 ⟨rfl, hb2⟩
  have hs2 := hb2.size
  try simp at hs2
  have hc2_0 := fun o => (bcell hb2).1 (w.heap.size) o (by first | omega | (simp; done) | (simp; omega))
  have hf2_0 := fun o => (bcell hb2).2.1 (w.heap.size) o (by first | omega | (simp; done) | (simp; omega))
  have hz2_0 := (bcell hb2).2.2 (w.heap.size) (by first | omega | (simp; done) | (simp; omega))
  have HB2 := Lib.hid hb2
  clear hb2
  go_wp2_with fail
  refine wp_region_class (fun w' => Below (w2.heap.size) (w2) w') (by kernel_rfl) (by kernel_rfl) (Below.refl _ _).drew ?_
  repeat (first
    | (refine wpLex_pass (by rfl) passes_plain ?_; (conv => arg 9; simp only [put_lit, put_lit_none, List.set]))
    | (refine wpLex_plain (by rfl) ?_
       apply Exists.intro
       refine ⟨?_, ?_⟩
       · intro w' hb
         have hsz := hb.size
         try simp at hsz
         have hcw := fun b o (h : b < w2.heap.size) => hb.cell (p := ⟨b, o, none⟩) h
         have hfw := fun b o (h : b < w2.heap.size) => hb.frozen (p := ⟨b, o, none⟩) h
         go_simp
         first
           | exact ⟨rfl, hb⟩
           | exact rfl
           | ((with_reducible refine Calls.mono (HBASE.out _) ?_); rintro e w2 ⟨rfl, rfl⟩; exact ⟨_, rfl, rfl, hb⟩)
       conv => arg 9; simp only [put_lit, put_lit_none, List.set]))
  refine wpLex_nil ?_
  intro wp hbp
  have hsp := hbp.size
  try simp at hsp
  have hcp := fun b o (h : b < w2.heap.size) => hbp.cell (p := ⟨b, o, none⟩) h
  have hfp := fun b o (h : b < w2.heap.size) => hbp.frozen (p := ⟨b, o, none⟩) h
  have HBp := Lib.hid hbp
  clear hbp
  go_wp2
  go_ret
  exact ⟨ret_bool (by rw [HR.out] <;> simp [*]), (by repeat' (first | (with_reducible exact Below.refl _ _) | (with_reducible (refine Below.setCell ?_ ?_ _)) | (with_reducible (refine Below.alloc ?_ ?_ _)) | (with_reducible (refine Below.drew ?_)) | (with_reducible (refine below_via ?_ HBp.out ?_)) | (with_reducible (refine below_via ?_ HB2.out ?_)) | (with_reducible (refine below_via ?_ HB1.out ?_)) | omega | (simp; done) | (simp; omega)))⟩

theorem emay_any (e : Ent) (w : World) :
    Calls Try.prog 68 #[.agg e.cells.toArray] w fun x w' => x = .returned (.bool (entOk e)) ∧ Below w.heap.size w w' := by
  obtain ⟨kind, vmid, asid, al, page, level, frame, mid, r, dw, x, af, ng, soft⟩ := e
  rcases (Bool.eq_false_or_eq_true (numOk vmid 15 && (numOk asid 15 && (numOk page 4095 && (numOk frame 4095 && (numOk mid 4095 && soft == 0)))))).symm with h | h
  · exact emay_no kind vmid asid al page level frame mid r dw x af ng soft w h
  by_cases k1 : kind = 1
  · exact emay_one kind vmid asid al page level frame mid r dw x af ng soft w h k1
  by_cases k2 : kind = 2
  · exact emay_two kind vmid asid al page level frame mid r dw x af ng soft w h k2
  by_cases k3 : kind = 3
  · subst k3
    exact emay_three vmid asid al page level frame mid r dw x af ng soft w h
  · exact emay_else kind vmid asid al page level frame mid r dw x af ng soft w h ⟨k1, k2, k3⟩

end Go.Proofs.Ytbaninglcafhhaa
