/-
  Whether an entry may be, whether something that takes entries away may be: the program's answers and the page's. Conditions: none.
-/
import Derived.Test.YtbaninglcafhhaaFind
namespace Go.Proofs.Ytbaninglcafhhaa
open Go.RowKit

theorem span_and : ∀ a b : Fin 64, bits .andNot .i64 ((64 * a.val + b.val : Nat) : Int) 511 = ((64 * a.val + b.val : Nat) : Int) - ((64 * a.val + b.val : Nat) : Int) % 512 ∧ bits .andNot .i64 ((64 * a.val + b.val : Nat) : Int) 63 = ((64 * a.val + b.val : Nat) : Int) - ((64 * a.val + b.val : Nat) : Int) % 64 ∧ bits .andNot .i64 ((64 * a.val + b.val : Nat) : Int) 7 = ((64 * a.val + b.val : Nat) : Int) - ((64 * a.val + b.val : Nat) : Int) % 8 := by decide +kernel
theorem cut_and {page : Int} (h0 : 0 ≤ page) (h1 : page ≤ 4095) : bits .andNot .i64 page 511 = page - page % 512 ∧ bits .andNot .i64 page 63 = page - page % 64 ∧ bits .andNot .i64 page 7 = page - page % 8 := by
  obtain ⟨n, rfl⟩ := Int.eq_ofNat_of_zero_le h0
  have := span_and ⟨n / 64, by omega⟩ ⟨n % 64, by omega⟩
  rw [show 64 * (⟨n / 64, by omega⟩ : Fin 64).val + (⟨n % 64, by omega⟩ : Fin 64).val = n from by dsimp only; omega] at this
  exact this

theorem base_any (page level : Int) (h0 : 0 ≤ page) (h1 : page ≤ 4095) (h2 : 1 ≤ level) (h3 : level ≤ 3) (w : World) :
    Calls Try.prog 90 #[.int .i64 page, .int .i64 level] w fun e w' => e = .returned (.int .i64 (cutOf page level)) ∧ w' = w := by
  obtain ⟨a1, a2, a3⟩ := cut_and h0 h1
  unfold cutOf
  rcases span_cases h2 h3 with ⟨rfl, e⟩ | ⟨rfl, e⟩ | ⟨rfl, e⟩
  all_goals
    rw [e]
    clear e h2 h3
    go_enter Try.func90, Try.ntmps90
    go_wp2
    go_ret
    exact ⟨by first | rfl | simp [*], rfl⟩

theorem num_any (n m : Int) (w : World) : Calls Try.prog 46 #[.int .i64 n, .int .i64 m] w fun e w' => e = .returned (.bool (numOk n m)) ∧ w' = w := by
  unfold numOk
  by_cases h : 0 ≤ n
  · have q : decide (0 ≤ n) = true := by simpa using h
    rw [q]
    go_enter Try.func46, Try.ntmps46
    go_wp2
    go_ret
    exact ⟨rfl, rfl⟩
  · have q : decide (0 ≤ n) = false := by simpa using h
    rw [q]
    clear h
    go_enter Try.func46, Try.ntmps46
    go_wp2
    go_ret
    exact ⟨rfl, rfl⟩
theorem page_any (n : Int) (w : World) : Calls Try.prog 54 #[.int .i64 n] w fun e w' => e = .returned (.bool (numOk n 4095)) ∧ w' = w := by
  have HN := Lib.hid (fun W => num_any n 4095 W)
  go_enter Try.func54, Try.ntmps54
  go_wp2_with (go_at_call 46; refine (HN.out _).mono ?_; rintro e w' ⟨rfl, rfl⟩)
  go_ret
  exact ⟨rfl, rfl⟩
theorem tag_any (n : Int) (w : World) : Calls Try.prog 53 #[.int .i64 n] w fun e w' => e = .returned (.bool (numOk n 15)) ∧ w' = w := by
  have HN := Lib.hid (fun W => num_any n 15 W)
  go_enter Try.func53, Try.ntmps53
  go_wp2_with (go_at_call 46; refine (HN.out _).mono ?_; rintro e w' ⟨rfl, rfl⟩)
  go_ret
  exact ⟨rfl, rfl⟩

theorem rcovers_any (level : Int) (h0 : 0 ≤ level) (h1 : level ≤ 2) (w : World) : Calls Try.prog 101 #[.int .i64 level] w fun e w' => e = .returned (.int .i64 (spanOf (level + 1))) ∧ Below w.heap.size w w' := by
  have : level = 0 ∨ level = 1 ∨ level = 2 := by omega
  rcases this with rfl | rfl | rfl
  all_goals
    go_enter Try.func101, Try.ntmps101
    go_wp2
    go_ret
    exact ⟨rfl, (by repeat' (first | (with_reducible exact Below.refl _ _) | (with_reducible (refine Below.setCell ?_ ?_ _)) | (with_reducible (refine Below.alloc ?_ ?_ _)) | (with_reducible (refine Below.drew ?_)) | omega | (simp; done) | (simp; omega)))⟩
theorem cut_any (level page : Int) (h0 : 0 ≤ level) (h1 : level ≤ 2) (h2 : 0 ≤ page) (h3 : page ≤ 4095) (w : World) : Calls Try.prog 89 #[.int .i64 level, .int .i64 page] w fun e w' => e = .returned (.int .i64 (cutOf page (level + 1))) ∧ Below w.heap.size w w' := by
  have HC := Lib.hid (fun W => rcovers_any level h0 h1 W)
  unfold cutOf
  have hs : spanOf (level + 1) = 512 ∨ spanOf (level + 1) = 64 ∨ spanOf (level + 1) = 8 := by
    rcases span_cases (level := level + 1) (by omega) (by omega) with ⟨_, e⟩ | ⟨_, e⟩ | ⟨_, e⟩ <;> simp [e]
  generalize spanOf (level + 1) = sp at *
  have hp0 : 0 ≤ page % sp := Int.emod_nonneg _ (by omega)
  have hp1 : page % sp ≤ page := by
    have := Int.mul_ediv_add_emod page sp
    have h2 : 0 ≤ sp * (page / sp) := Int.mul_nonneg (by omega) (Int.ediv_nonneg h2 (by omega))
    omega
  have hne : ¬ sp = 0 := by omega
  have hne2 : (sp == 0) = false := by simpa using hne
  have htm : page.tmod sp = page % sp := Int.tmod_eq_emod_of_nonneg h2
  have hwr : IntKind.i64.wrap (page % sp) = page % sp := IntWalk.i64_in _ (by omega)
  have hwr2 : IntKind.i64.wrap (page - page % sp) = page - page % sp := IntWalk.i64_in _ (by omega)
  clear hs
  go_enter Try.func89, Try.ntmps89
  go_wp2_with fail
  refine Calls.mono (HC.out _) ?_
  rintro e w1 ⟨rfl, hb1⟩
  have hs1 := hb1.size
  try simp at hs1
  have HB1 := Lib.hid hb1
  clear hb1
  go_wp2
  go_ret
  exact ⟨by first | rfl | simp [*], HB1.out⟩
theorem above_any (level page : Int) (h0 : 1 ≤ level) (h1 : level ≤ 3) (h2 : 0 ≤ page) (h3 : page ≤ 4095) (w : World) : Calls Try.prog 67 #[.int .i64 level, .int .i64 page] w fun e w' => e = .returned (.int .i64 (cutOf page level)) ∧ Below w.heap.size w w' := by
  have HC := Lib.hid (fun W => cut_any (level - 1) page (by omega) (by omega) h2 h3 W)
  rw [show level - 1 + 1 = level by omega] at HC
  go_enter Try.func67, Try.ntmps67
  go_wp2_with fail
  refine Calls.mono (HC.out _) ?_
  rintro e w1 ⟨rfl, hb1⟩
  have hs1 := hb1.size
  try simp at hs1
  have HB1 := Lib.hid hb1
  clear hb1
  go_wp2
  go_ret
  exact ⟨rfl, HB1.out⟩

theorem run_eql_bare (r w x f n : Bool) (s : Int) (W : World) :
    (binOp .eql 34 (.agg #[.bool r, .bool w, .bool x, .bool f, .bool n, .int .i64 s]) (.agg #[.bool false, .bool false, .bool false, .bool false, .bool false, .int .i64 0])).run Try.prog W =
      .ok (.bool (!r && (!w && (!x && (!f && (!n && s == 0)))))) W := by
  cases r <;> cases w <;> cases x <;> cases f <;> cases n <;> go_simp
  by_cases e : s = 0 <;> simp [e]

set_option maxRecDepth 100000 in
set_option maxHeartbeats 4000000 in
theorem emay_no (kind vmid asid : Int) (al : Bool) (page level frame mid : Int) (r dw x af ng : Bool) (soft : Int) (w : World) (h : (numOk vmid 15 && (numOk asid 15 && (numOk page 4095 && (numOk frame 4095 && (numOk mid 4095 && soft == 0))))) = false) :
    Calls Try.prog 68 #[.agg #[.int .i64 kind, .int .i64 vmid, .int .i64 asid, .bool al, .int .i64 page, .int .i64 level, .int .i64 frame, .int .i64 mid, .bool r, .bool dw, .bool x, .bool af, .bool ng, .int .i64 soft]] w fun e w' => e = .returned (.bool (entOk ⟨kind, vmid, asid, al, page, level, frame, mid, r, dw, x, af, ng, soft⟩)) ∧ Below w.heap.size w w' := by
  have HR := Lib.hid (show entOk ⟨kind, vmid, asid, al, page, level, frame, mid, r, dw, x, af, ng, soft⟩ = false by unfold entOk; dsimp only; rw [h]; rfl)
  have H2 := Lib.hid (fun (W : World) b t hb => win2 15 vmid asid W b t hb)
  have H3 := Lib.hid (fun (W : World) b t hb => win3 4095 page frame mid W b t hb)
  rcases (Bool.eq_false_or_eq_true (numOk vmid 15 && numOk asid 15)).symm with q0 | q0
  · rw [q0] at H2
    clear h
    go_enter Try.func68, Try.ntmps68
    go_wp2_with fail
    refine Calls.mono (H2.out _ _ _ (by simp)) ?_
    rintro e w1 ⟨rfl, hb1⟩
    have hs1 := hb1.size
    try simp at hs1
    have hc1_0 := fun o => (bcell hb1).1 (w.heap.size) o (by first | omega | (simp; done) | (simp; omega))
    have hf1_0 := fun o => (bcell hb1).2.1 (w.heap.size) o (by first | omega | (simp; done) | (simp; omega))
    have hz1_0 := (bcell hb1).2.2 (w.heap.size) (by first | omega | (simp; done) | (simp; omega))
    have HB1 := Lib.hid hb1
    clear hb1
    go_wp2
    go_ret
    exact ⟨ret_bool HR.out.symm, (by repeat' (first | (with_reducible exact Below.refl _ _) | (with_reducible (refine Below.setCell ?_ ?_ _)) | (with_reducible (refine Below.alloc ?_ ?_ _)) | (with_reducible (refine Below.drew ?_)) | (with_reducible (refine below_via ?_ HB1.out ?_)) | omega | (simp; done) | (simp; omega)))⟩
  rw [q0] at H2
  rcases (Bool.eq_false_or_eq_true (numOk page 4095 && (numOk frame 4095 && numOk mid 4095))).symm with q1 | q1
  · rw [q1] at H3
    clear h
    go_enter Try.func68, Try.ntmps68
    go_wp2_with fail
    refine Calls.mono (H2.out _ _ _ (by simp)) ?_
    rintro e w1 ⟨rfl, hb1⟩
    have hs1 := hb1.size
    try simp at hs1
    have hc1_0 := fun o => (bcell hb1).1 (w.heap.size) o (by first | omega | (simp; done) | (simp; omega))
    have hf1_0 := fun o => (bcell hb1).2.1 (w.heap.size) o (by first | omega | (simp; done) | (simp; omega))
    have hz1_0 := (bcell hb1).2.2 (w.heap.size) (by first | omega | (simp; done) | (simp; omega))
    have HB1 := Lib.hid hb1
    clear hb1
    go_wp2_with fail
    refine Calls.mono (H3.out _ _ _ (by simp)) ?_
    rintro e w2 ⟨rfl, hb2⟩
    have hs2 := hb2.size
    try simp at hs2
    have hc2_0 := fun o => (bcell hb2).1 (w.heap.size) o (by first | omega | (simp; done) | (simp; omega))
    have hf2_0 := fun o => (bcell hb2).2.1 (w.heap.size) o (by first | omega | (simp; done) | (simp; omega))
    have hz2_0 := (bcell hb2).2.2 (w.heap.size) (by first | omega | (simp; done) | (simp; omega))
    have HB2 := Lib.hid hb2
    clear hb2
    go_wp2
    go_ret
    exact ⟨ret_bool HR.out.symm, (by repeat' (first | (with_reducible exact Below.refl _ _) | (with_reducible (refine Below.setCell ?_ ?_ _)) | (with_reducible (refine Below.alloc ?_ ?_ _)) | (with_reducible (refine Below.drew ?_)) | (with_reducible (refine below_via ?_ HB2.out ?_)) | (with_reducible (refine below_via ?_ HB1.out ?_)) | omega | (simp; done) | (simp; omega)))⟩
  rw [q1] at H3
  have hs : (soft == 0) = false := by
    rw [Bool.and_eq_true] at q0
    rw [Bool.and_eq_true, Bool.and_eq_true] at q1
    simpa [q0, q1] using h
  have hs2 : (soft != 0) = true := by unfold bne; rw [hs]; rfl
  clear h hs
  go_enter Try.func68, Try.ntmps68
  go_wp2_with fail
  refine Calls.mono (H2.out _ _ _ (by simp)) ?_
  rintro e w1 ⟨rfl, hb1⟩
  have hs1 := hb1.size
  try simp at hs1
  have hc1_0 := fun o => (bcell hb1).1 (w.heap.size) o (by first | omega | (simp; done) | (simp; omega))
  have hf1_0 := fun o => (bcell hb1).2.1 (w.heap.size) o (by first | omega | (simp; done) | (simp; omega))
  have hz1_0 := (bcell hb1).2.2 (w.heap.size) (by first | omega | (simp; done) | (simp; omega))
  have HB1 := Lib.hid hb1
  clear hb1
  go_wp2_with fail
  refine Calls.mono (H3.out _ _ _ (by simp)) ?_
  rintro e w2 ⟨rfl, hb2⟩
  have hs2 := hb2.size
  try simp at hs2
  have hc2_0 := fun o => (bcell hb2).1 (w.heap.size) o (by first | omega | (simp; done) | (simp; omega))
  have hf2_0 := fun o => (bcell hb2).2.1 (w.heap.size) o (by first | omega | (simp; done) | (simp; omega))
  have hz2_0 := (bcell hb2).2.2 (w.heap.size) (by first | omega | (simp; done) | (simp; omega))
  have HB2 := Lib.hid hb2
  clear hb2
  go_wp2
  go_ret
  exact ⟨ret_bool HR.out.symm, (by repeat' (first | (with_reducible exact Below.refl _ _) | (with_reducible (refine Below.setCell ?_ ?_ _)) | (with_reducible (refine Below.alloc ?_ ?_ _)) | (with_reducible (refine Below.drew ?_)) | (with_reducible (refine below_via ?_ HB2.out ?_)) | (with_reducible (refine below_via ?_ HB1.out ?_)) | omega | (simp; done) | (simp; omega)))⟩

set_option maxRecDepth 100000 in
set_option maxHeartbeats 4000000 in
theorem emay_one (kind vmid asid : Int) (al : Bool) (page level frame mid : Int) (r dw x af ng : Bool) (soft : Int) (w : World) (h : (numOk vmid 15 && (numOk asid 15 && (numOk page 4095 && (numOk frame 4095 && (numOk mid 4095 && soft == 0))))) = true) (hk : kind = 1) :
    Calls Try.prog 68 #[.agg #[.int .i64 kind, .int .i64 vmid, .int .i64 asid, .bool al, .int .i64 page, .int .i64 level, .int .i64 frame, .int .i64 mid, .bool r, .bool dw, .bool x, .bool af, .bool ng, .int .i64 soft]] w fun e w' => e = .returned (.bool (entOk ⟨kind, vmid, asid, al, page, level, frame, mid, r, dw, x, af, ng, soft⟩)) ∧ Below w.heap.size w w' := by
  have HR := Lib.hid (show entOk ⟨1, vmid, asid, al, page, level, frame, mid, r, dw, x, af, ng, soft⟩ = (level == 0) by unfold entOk; dsimp only; rw [h]; rfl)
  simp only [Bool.and_eq_true] at h
  obtain ⟨v0, v1, v2, v3, v4, v5⟩ := h
  have H2 := Lib.hid (fun (W : World) b t hb => win2 15 vmid asid W b t hb)
  have H3 := Lib.hid (fun (W : World) b t hb => win3 4095 page frame mid W b t hb)
  rw [v0, v1] at H2
  rw [v2, v3, v4] at H3
  have vs : (soft != 0) = false := by unfold bne; rw [v5]; rfl
  have hpg : 0 ≤ page ∧ page ≤ 4095 := by simpa [numOk] using v2
  clear v0 v1 v2 v3 v4 v5
  subst hk
  go_enter Try.func68, Try.ntmps68
  go_wp2_with fail
  refine Calls.mono (H2.out _ _ _ (by simp)) ?_
  rintro e w1 ⟨rfl, hb1⟩
  have hs1 := hb1.size
  try simp at hs1
  have hc1_0 := fun o => (bcell hb1).1 (w.heap.size) o (by first | omega | (simp; done) | (simp; omega))
  have hf1_0 := fun o => (bcell hb1).2.1 (w.heap.size) o (by first | omega | (simp; done) | (simp; omega))
  have hz1_0 := (bcell hb1).2.2 (w.heap.size) (by first | omega | (simp; done) | (simp; omega))
  have HB1 := Lib.hid hb1
  clear hb1
  go_wp2_with fail
  refine Calls.mono (H3.out _ _ _ (by simp)) ?_
  rintro e w2 ⟨rfl, hb2⟩
  have hs2 := hb2.size
  try simp at hs2
  have hc2_0 := fun o => (bcell hb2).1 (w.heap.size) o (by first | omega | (simp; done) | (simp; omega))
  have hf2_0 := fun o => (bcell hb2).2.1 (w.heap.size) o (by first | omega | (simp; done) | (simp; omega))
  have hz2_0 := (bcell hb2).2.2 (w.heap.size) (by first | omega | (simp; done) | (simp; omega))
  have HB2 := Lib.hid hb2
  clear hb2
  go_wp2
  go_ret
  exact ⟨ret_bool (by rw [HR.out] <;> simp [*]), (by repeat' (first | (with_reducible exact Below.refl _ _) | (with_reducible (refine Below.setCell ?_ ?_ _)) | (with_reducible (refine Below.alloc ?_ ?_ _)) | (with_reducible (refine Below.drew ?_)) | (with_reducible (refine below_via ?_ HB2.out ?_)) | (with_reducible (refine below_via ?_ HB1.out ?_)) | omega | (simp; done) | (simp; omega)))⟩

set_option maxRecDepth 100000 in
set_option maxHeartbeats 4000000 in
theorem emay_two (kind vmid asid : Int) (al : Bool) (page level frame mid : Int) (r dw x af ng : Bool) (soft : Int) (w : World) (h : (numOk vmid 15 && (numOk asid 15 && (numOk page 4095 && (numOk frame 4095 && (numOk mid 4095 && soft == 0))))) = true) (hk : kind = 2) :
    Calls Try.prog 68 #[.agg #[.int .i64 kind, .int .i64 vmid, .int .i64 asid, .bool al, .int .i64 page, .int .i64 level, .int .i64 frame, .int .i64 mid, .bool r, .bool dw, .bool x, .bool af, .bool ng, .int .i64 soft]] w fun e w' => e = .returned (.bool (entOk ⟨kind, vmid, asid, al, page, level, frame, mid, r, dw, x, af, ng, soft⟩)) ∧ Below w.heap.size w w' := by
  have HR := Lib.hid (show entOk ⟨2, vmid, asid, al, page, level, frame, mid, r, dw, x, af, ng, soft⟩ = (asid == 0 && (al && (level == 0 && (mid == 0 && !ng)))) by unfold entOk; dsimp only; rw [h]; rfl)
  simp only [Bool.and_eq_true] at h
  obtain ⟨v0, v1, v2, v3, v4, v5⟩ := h
  have H2 := Lib.hid (fun (W : World) b t hb => win2 15 vmid asid W b t hb)
  have H3 := Lib.hid (fun (W : World) b t hb => win3 4095 page frame mid W b t hb)
  rw [v0, v1] at H2
  rw [v2, v3, v4] at H3
  have vs : (soft != 0) = false := by unfold bne; rw [v5]; rfl
  have hpg : 0 ≤ page ∧ page ≤ 4095 := by simpa [numOk] using v2
  clear v0 v1 v2 v3 v4 v5
  subst hk
  rcases (Bool.eq_false_or_eq_true (asid == 0)).symm with q0 | q0
  · go_enter Try.func68, Try.ntmps68
    go_wp2_with fail
    refine Calls.mono (H2.out _ _ _ (by simp)) ?_
    rintro e w1 ⟨rfl, hb1⟩
    have hs1 := hb1.size
    try simp at hs1
    have hc1_0 := fun o => (bcell hb1).1 (w.heap.size) o (by first | omega | (simp; done) | (simp; omega))
    have hf1_0 := fun o => (bcell hb1).2.1 (w.heap.size) o (by first | omega | (simp; done) | (simp; omega))
    have hz1_0 := (bcell hb1).2.2 (w.heap.size) (by first | omega | (simp; done) | (simp; omega))
    have HB1 := Lib.hid hb1
    clear hb1
    go_wp2_with fail
    refine Calls.mono (H3.out _ _ _ (by simp)) ?_
    rintro e w2 ⟨rfl, hb2⟩
    have hs2 := hb2.size
    try simp at hs2
    have hc2_0 := fun o => (bcell hb2).1 (w.heap.size) o (by first | omega | (simp; done) | (simp; omega))
    have hf2_0 := fun o => (bcell hb2).2.1 (w.heap.size) o (by first | omega | (simp; done) | (simp; omega))
    have hz2_0 := (bcell hb2).2.2 (w.heap.size) (by first | omega | (simp; done) | (simp; omega))
    have HB2 := Lib.hid hb2
    clear hb2
    go_wp2
    go_ret
    exact ⟨ret_bool (by rw [HR.out] <;> simp [*]), (by repeat' (first | (with_reducible exact Below.refl _ _) | (with_reducible (refine Below.setCell ?_ ?_ _)) | (with_reducible (refine Below.alloc ?_ ?_ _)) | (with_reducible (refine Below.drew ?_)) | (with_reducible (refine below_via ?_ HB2.out ?_)) | (with_reducible (refine below_via ?_ HB1.out ?_)) | omega | (simp; done) | (simp; omega)))⟩
  rcases (Bool.eq_false_or_eq_true (al)).symm with q1 | q1
  · go_enter Try.func68, Try.ntmps68
    go_wp2_with fail
    refine Calls.mono (H2.out _ _ _ (by simp)) ?_
    rintro e w1 ⟨rfl, hb1⟩
    have hs1 := hb1.size
    try simp at hs1
    have hc1_0 := fun o => (bcell hb1).1 (w.heap.size) o (by first | omega | (simp; done) | (simp; omega))
    have hf1_0 := fun o => (bcell hb1).2.1 (w.heap.size) o (by first | omega | (simp; done) | (simp; omega))
    have hz1_0 := (bcell hb1).2.2 (w.heap.size) (by first | omega | (simp; done) | (simp; omega))
    have HB1 := Lib.hid hb1
    clear hb1
    go_wp2_with fail
    refine Calls.mono (H3.out _ _ _ (by simp)) ?_
    rintro e w2 ⟨rfl, hb2⟩
    have hs2 := hb2.size
    try simp at hs2
    have hc2_0 := fun o => (bcell hb2).1 (w.heap.size) o (by first | omega | (simp; done) | (simp; omega))
    have hf2_0 := fun o => (bcell hb2).2.1 (w.heap.size) o (by first | omega | (simp; done) | (simp; omega))
    have hz2_0 := (bcell hb2).2.2 (w.heap.size) (by first | omega | (simp; done) | (simp; omega))
    have HB2 := Lib.hid hb2
    clear hb2
    go_wp2
    go_ret
    exact ⟨ret_bool (by rw [HR.out] <;> simp [*]), (by repeat' (first | (with_reducible exact Below.refl _ _) | (with_reducible (refine Below.setCell ?_ ?_ _)) | (with_reducible (refine Below.alloc ?_ ?_ _)) | (with_reducible (refine Below.drew ?_)) | (with_reducible (refine below_via ?_ HB2.out ?_)) | (with_reducible (refine below_via ?_ HB1.out ?_)) | omega | (simp; done) | (simp; omega)))⟩
  rcases (Bool.eq_false_or_eq_true (level == 0)).symm with q2 | q2
  · go_enter Try.func68, Try.ntmps68
    go_wp2_with fail
    refine Calls.mono (H2.out _ _ _ (by simp)) ?_
    rintro e w1 ⟨rfl, hb1⟩
    have hs1 := hb1.size
    try simp at hs1
    have hc1_0 := fun o => (bcell hb1).1 (w.heap.size) o (by first | omega | (simp; done) | (simp; omega))
    have hf1_0 := fun o => (bcell hb1).2.1 (w.heap.size) o (by first | omega | (simp; done) | (simp; omega))
    have hz1_0 := (bcell hb1).2.2 (w.heap.size) (by first | omega | (simp; done) | (simp; omega))
    have HB1 := Lib.hid hb1
    clear hb1
    go_wp2_with fail
    refine Calls.mono (H3.out _ _ _ (by simp)) ?_
    rintro e w2 ⟨rfl, hb2⟩
    have hs2 := hb2.size
    try simp at hs2
    have hc2_0 := fun o => (bcell hb2).1 (w.heap.size) o (by first | omega | (simp; done) | (simp; omega))
    have hf2_0 := fun o => (bcell hb2).2.1 (w.heap.size) o (by first | omega | (simp; done) | (simp; omega))
    have hz2_0 := (bcell hb2).2.2 (w.heap.size) (by first | omega | (simp; done) | (simp; omega))
    have HB2 := Lib.hid hb2
    clear hb2
    go_wp2
    go_ret
    exact ⟨ret_bool (by rw [HR.out] <;> simp [*]), (by repeat' (first | (with_reducible exact Below.refl _ _) | (with_reducible (refine Below.setCell ?_ ?_ _)) | (with_reducible (refine Below.alloc ?_ ?_ _)) | (with_reducible (refine Below.drew ?_)) | (with_reducible (refine below_via ?_ HB2.out ?_)) | (with_reducible (refine below_via ?_ HB1.out ?_)) | omega | (simp; done) | (simp; omega)))⟩
  rcases (Bool.eq_false_or_eq_true (mid == 0)).symm with q3 | q3
  · go_enter Try.func68, Try.ntmps68
    go_wp2_with fail
    refine Calls.mono (H2.out _ _ _ (by simp)) ?_
    rintro e w1 ⟨rfl, hb1⟩
    have hs1 := hb1.size
    try simp at hs1
    have hc1_0 := fun o => (bcell hb1).1 (w.heap.size) o (by first | omega | (simp; done) | (simp; omega))
    have hf1_0 := fun o => (bcell hb1).2.1 (w.heap.size) o (by first | omega | (simp; done) | (simp; omega))
    have hz1_0 := (bcell hb1).2.2 (w.heap.size) (by first | omega | (simp; done) | (simp; omega))
    have HB1 := Lib.hid hb1
    clear hb1
    go_wp2_with fail
    refine Calls.mono (H3.out _ _ _ (by simp)) ?_
    rintro e w2 ⟨rfl, hb2⟩
    have hs2 := hb2.size
    try simp at hs2
    have hc2_0 := fun o => (bcell hb2).1 (w.heap.size) o (by first | omega | (simp; done) | (simp; omega))
    have hf2_0 := fun o => (bcell hb2).2.1 (w.heap.size) o (by first | omega | (simp; done) | (simp; omega))
    have hz2_0 := (bcell hb2).2.2 (w.heap.size) (by first | omega | (simp; done) | (simp; omega))
    have HB2 := Lib.hid hb2
    clear hb2
    go_wp2
    go_ret
    exact ⟨ret_bool (by rw [HR.out] <;> simp [*]), (by repeat' (first | (with_reducible exact Below.refl _ _) | (with_reducible (refine Below.setCell ?_ ?_ _)) | (with_reducible (refine Below.alloc ?_ ?_ _)) | (with_reducible (refine Below.drew ?_)) | (with_reducible (refine below_via ?_ HB2.out ?_)) | (with_reducible (refine below_via ?_ HB1.out ?_)) | omega | (simp; done) | (simp; omega)))⟩
  go_enter Try.func68, Try.ntmps68
  go_wp2_with fail
  refine Calls.mono (H2.out _ _ _ (by simp)) ?_
  rintro e w1 ⟨rfl, hb1⟩
  have hs1 := hb1.size
  try simp at hs1
  have hc1_0 := fun o => (bcell hb1).1 (w.heap.size) o (by first | omega | (simp; done) | (simp; omega))
  have hf1_0 := fun o => (bcell hb1).2.1 (w.heap.size) o (by first | omega | (simp; done) | (simp; omega))
  have hz1_0 := (bcell hb1).2.2 (w.heap.size) (by first | omega | (simp; done) | (simp; omega))
  have HB1 := Lib.hid hb1
  clear hb1
  go_wp2_with fail
  refine Calls.mono (H3.out _ _ _ (by simp)) ?_
  rintro e w2 ⟨rfl, hb2⟩
  have hs2 := hb2.size
  try simp at hs2
  have hc2_0 := fun o => (bcell hb2).1 (w.heap.size) o (by first | omega | (simp; done) | (simp; omega))
  have hf2_0 := fun o => (bcell hb2).2.1 (w.heap.size) o (by first | omega | (simp; done) | (simp; omega))
  have hz2_0 := (bcell hb2).2.2 (w.heap.size) (by first | omega | (simp; done) | (simp; omega))
  have HB2 := Lib.hid hb2
  clear hb2
  go_wp2
  go_ret
  exact ⟨ret_bool (by rw [HR.out] <;> simp [*]), (by repeat' (first | (with_reducible exact Below.refl _ _) | (with_reducible (refine Below.setCell ?_ ?_ _)) | (with_reducible (refine Below.alloc ?_ ?_ _)) | (with_reducible (refine Below.drew ?_)) | (with_reducible (refine below_via ?_ HB2.out ?_)) | (with_reducible (refine below_via ?_ HB1.out ?_)) | omega | (simp; done) | (simp; omega)))⟩

set_option maxRecDepth 100000 in
set_option maxHeartbeats 4000000 in
theorem emay_else (kind vmid asid : Int) (al : Bool) (page level frame mid : Int) (r dw x af ng : Bool) (soft : Int) (w : World) (h : (numOk vmid 15 && (numOk asid 15 && (numOk page 4095 && (numOk frame 4095 && (numOk mid 4095 && soft == 0))))) = true) (hk : kind ≠ 1 ∧ kind ≠ 2 ∧ kind ≠ 3) :
    Calls Try.prog 68 #[.agg #[.int .i64 kind, .int .i64 vmid, .int .i64 asid, .bool al, .int .i64 page, .int .i64 level, .int .i64 frame, .int .i64 mid, .bool r, .bool dw, .bool x, .bool af, .bool ng, .int .i64 soft]] w fun e w' => e = .returned (.bool (entOk ⟨kind, vmid, asid, al, page, level, frame, mid, r, dw, x, af, ng, soft⟩)) ∧ Below w.heap.size w w' := by
  have HR := Lib.hid (show entOk ⟨kind, vmid, asid, al, page, level, frame, mid, r, dw, x, af, ng, soft⟩ = false by unfold entOk; dsimp only; rw [h]; rw [if_neg hk.1, if_neg hk.2.1, if_neg hk.2.2]; rfl)
  simp only [Bool.and_eq_true] at h
  obtain ⟨v0, v1, v2, v3, v4, v5⟩ := h
  have H2 := Lib.hid (fun (W : World) b t hb => win2 15 vmid asid W b t hb)
  have H3 := Lib.hid (fun (W : World) b t hb => win3 4095 page frame mid W b t hb)
  rw [v0, v1] at H2
  rw [v2, v3, v4] at H3
  have vs : (soft != 0) = false := by unfold bne; rw [v5]; rfl
  have hpg : 0 ≤ page ∧ page ≤ 4095 := by simpa [numOk] using v2
  clear v0 v1 v2 v3 v4 v5
  obtain ⟨k1, k2, k3⟩ := hk
  have k1 : (kind == 1) = false := by simpa using k1
  have k2 : (kind == 2) = false := by simpa using k2
  have k3 : (kind == 3) = false := by simpa using k3
  go_enter Try.func68, Try.ntmps68
  go_wp2_with fail
  refine Calls.mono (H2.out _ _ _ (by simp)) ?_
  rintro e w1 ⟨rfl, hb1⟩
  have hs1 := hb1.size
  try simp at hs1
  have hc1_0 := fun o => (bcell hb1).1 (w.heap.size) o (by first | omega | (simp; done) | (simp; omega))
  have hf1_0 := fun o => (bcell hb1).2.1 (w.heap.size) o (by first | omega | (simp; done) | (simp; omega))
  have hz1_0 := (bcell hb1).2.2 (w.heap.size) (by first | omega | (simp; done) | (simp; omega))
  have HB1 := Lib.hid hb1
  clear hb1
  go_wp2_with fail
  refine Calls.mono (H3.out _ _ _ (by simp)) ?_
  rintro e w2 ⟨rfl, hb2⟩
  have hs2 := hb2.size
  try simp at hs2
  have hc2_0 := fun o => (bcell hb2).1 (w.heap.size) o (by first | omega | (simp; done) | (simp; omega))
  have hf2_0 := fun o => (bcell hb2).2.1 (w.heap.size) o (by first | omega | (simp; done) | (simp; omega))
  have hz2_0 := (bcell hb2).2.2 (w.heap.size) (by first | omega | (simp; done) | (simp; omega))
  have HB2 := Lib.hid hb2
  clear hb2
  go_wp2
  go_ret
  exact ⟨ret_bool (by rw [HR.out]), (by repeat' (first | (with_reducible exact Below.refl _ _) | (with_reducible (refine Below.setCell ?_ ?_ _)) | (with_reducible (refine Below.alloc ?_ ?_ _)) | (with_reducible (refine Below.drew ?_)) | (with_reducible (refine below_via ?_ HB2.out ?_)) | (with_reducible (refine below_via ?_ HB1.out ?_)) | omega | (simp; done) | (simp; omega)))⟩

end Go.Proofs.Ytbaninglcafhhaa
