/-
  The page's own masks and fields; some bits of a word, read. Conditions: the field lies within 64 bits.
-/
import Derived.Test.YtddbndmbcdeggaaFieldA
namespace Go.Proofs.Ytddbndmbcdeggaa
open Go.RowKit

theorem shl_one : ∀ n : Nat, n < 64 → (2 ^ n % 18446744073709551616 + 18446744073709551615) % 18446744073709551616 = 2 ^ n - 1 := by decide +kernel
theorem shl_low (n : Int) (h0 : 1 ≤ n) (h1 : n < 64) : IntKind.u64.wrap (IntKind.u64.wrap (1 * 2 ^ n.toNat) - 1) = lowOf n := by
  obtain ⟨k, rfl⟩ := Int.eq_ofNat_of_zero_le (show 0 ≤ n by omega)
  rw [lowOf_nat, Int.toNat_natCast, IntKind.wrap_u64, IntKind.wrap_u64]
  have h2 : (2 : Int) ^ k = ((2 ^ k : Nat) : Int) := by simp
  have h3 := low_lt k (by omega)
  have h4 := Nat.two_pow_pos k
  rw [h2]
  omega

theorem rmask_any (n : Int) (h0 : 1 ≤ n) (h1 : n ≤ 64) (w : World) : Calls Try.prog 80 #[.int .i64 n] w fun e w' => e = .returned (.int .u64 (lowOf n)) ∧ w' = w := by
  by_cases h : n = 64
  · subst h
    go_enter Try.func80, Try.ntmps80
    go_wp2
    go_ret
    exact ⟨rfl, rfl⟩
  · have q0 : decide ((64 : Int) ≤ n) = false := by simp; omega
    have HL := Lib.hid (shl_low n h0 (by omega))
    clear h
    go_enter Try.func80, Try.ntmps80
    go_wp2
    go_ret
    exact ⟨by rw [← HL.out]; first | rfl | simp, rfl⟩

theorem rfits_any (at_ n : Int) (h0 : 1 ≤ n) (h1 : n ≤ 64) (h2 : 0 ≤ at_) (h3 : at_ ≤ 64 - n) (w : World) :
    Calls Try.prog 96 #[.int .i64 at_, .int .i64 n] w fun e w' => e = .returned (.bool true) ∧ w' = w := by
  have q0 : decide ((0 : Int) ≤ at_) = true := by simpa using h2
  have q1 : decide (at_ ≤ 63) = true := by simp; omega
  have q2 : decide ((1 : Int) ≤ n) = true := by simpa using h0
  have q3 : decide (n ≤ 64 - at_) = true := by simp; omega
  have q4 : IntKind.i64.wrap (64 - at_) = 64 - at_ := IntWalk.i64_in _ (by omega)
  go_enter Try.func96, Try.ntmps96
  go_wp2
  go_ret
  exact ⟨rfl, rfl⟩

set_option maxRecDepth 100000 in
set_option maxHeartbeats 1000000 in
theorem rfield_any (at_ n v : Int) (h : FdOk ⟨at_, n, v⟩) (w : World) :
    Calls Try.prog 90 #[.agg #[.int .i64 at_, .int .i64 n, .int .u64 v]] w fun e w' => e = .returned (.bool true) ∧ Below w.heap.size w w' := by
  obtain ⟨h0, h1, h2, h3, h4, h5⟩ := h
  dsimp only at *
  have HF := Lib.hid (fun W => rfits_any at_ n h0 h1 h2 h3 W)
  have HM := Lib.hid (fun W => rmask_any n h0 h1 W)
  have q4 := fits_low n v h0 h1 h4 h5
  go_enter Try.func90, Try.ntmps90
  go_wp2_with fail
  refine wp_region_class (fun w' => Below (w.heap.size + 1) (w.alloc (.cells #[.int .i64 at_, .int .i64 n, .int .u64 v] 124)) w') (by kernel_rfl) (by kernel_rfl) (Below.refl _ _).drew ?_
  repeat (first
    | (refine wpLex_pass (by rfl) passes_plain ?_; (conv => arg 9; simp only [put_lit, put_lit_none, List.set]))
    | (refine wpLex_plain (by rfl) ?_
       apply Exists.intro
       refine ⟨?_, ?_⟩
       · intro w' hb
         have hsz := hb.size
         try simp at hsz
         have hcw := fun b o (h : b < w.heap.size + 1) => hb.cell (p := ⟨b, o, none⟩) h
         have hfw := fun b o (h : b < w.heap.size + 1) => hb.frozen (p := ⟨b, o, none⟩) h
         go_simp
         first
           | exact ⟨rfl, hb⟩
           | exact rfl
           | ((with_reducible refine Calls.mono (HF.out _) ?_); rintro e w2 ⟨rfl, rfl⟩; exact ⟨_, rfl, rfl, hb⟩)
           | ((with_reducible refine Calls.mono (HM.out _) ?_); rintro e w2 ⟨rfl, rfl⟩; exact ⟨_, rfl, rfl, hb⟩)
       conv => arg 9; simp only [put_lit, put_lit_none, List.set]))
  refine wpLex_nil ?_
  intro wr hbr
  have hsr := hbr.size
  try simp at hsr
  have hcr := fun b o (h : b < w.heap.size + 1) => hbr.cell (p := ⟨b, o, none⟩) h
  have hfr := fun b o (h : b < w.heap.size + 1) => hbr.frozen (p := ⟨b, o, none⟩) h
  have HBr := Lib.hid hbr
  clear hbr
  go_wp2
  go_ret
  exact ⟨rfl, (by repeat' (first | (with_reducible exact Below.refl _ _) | (with_reducible (refine Below.setCell ?_ ?_ _)) | (with_reducible (refine Below.alloc ?_ ?_ _)) | (with_reducible (refine Below.drew ?_)) | (with_reducible (refine below_via ?_ HBr.out ?_)) | omega | (simp; done) | (simp; omega)))⟩

/-- Some bits of a word. -/
def partOf (x at_ n : Int) : Int := x / 2 ^ at_.toNat % 2 ^ n.toNat
theorem part_bits (x at_ n : Int) (hx : 0 ≤ x ∧ x ≤ 18446744073709551615) (h0 : 1 ≤ n) (h1 : n ≤ 64) (_ : 0 ≤ at_) : bits .and .u64 (x / 2 ^ at_.toNat) (lowOf n) = partOf x at_ n := by
  obtain ⟨k, rfl⟩ := Int.eq_ofNat_of_zero_le (show 0 ≤ n by omega)
  obtain ⟨y, rfl⟩ := Int.eq_ofNat_of_zero_le hx.1
  have hy : y / 2 ^ at_.toNat < 18446744073709551616 := Nat.lt_of_le_of_lt (Nat.div_le_self _ _) (by omega)
  have hl := low_lt k (by omega)
  have e : ((y : Int) / 2 ^ at_.toNat) = ((y / 2 ^ at_.toNat : Nat) : Int) := by simp
  unfold partOf
  rw [lowOf_nat, Int.toNat_natCast, e, u64_and_nat _ _ hy hl, Nat.and_two_pow_sub_one_eq_mod]
  simp
theorem part_range (x at_ n : Int) : 0 ≤ partOf x at_ n ∧ partOf x at_ n ≤ lowOf n := by
  unfold partOf lowOf
  have h : (0 : Int) < 2 ^ n.toNat := Int.pow_pos (by decide)
  exact ⟨Int.emod_nonneg _ (by omega), by have := Int.emod_lt_of_pos (x / 2 ^ at_.toNat) h; omega⟩

set_option maxRecDepth 100000 in
set_option maxHeartbeats 1000000 in
theorem rget_any (x at_ n : Int) (hx : 0 ≤ x ∧ x ≤ 18446744073709551615) (h0 : 1 ≤ n) (h1 : n ≤ 64) (h2 : 0 ≤ at_) (h3 : at_ ≤ 64 - n) (w : World) :
    Calls Try.prog 63 #[.int .u64 x, .int .i64 at_, .int .i64 n] w fun e w' => e = .returned (.int .u64 (partOf x at_ n)) ∧ Below w.heap.size w w' := by
  have HM := Lib.hid (fun W => rmask_any n h0 h1 W)
  have HP := Lib.hid (part_bits x at_ n hx h0 h1 h2)
  obtain ⟨hx0, hx1⟩ := hx
  go_enter Try.func63, Try.ntmps63
  go_wp2_with fail
  refine wp_region_class (fun w' => Below (w.heap.size) (w) w') (by kernel_rfl) (by kernel_rfl) (Below.refl _ _).drew ?_
  repeat (first
    | (refine wpLex_pass (by rfl) passes_plain ?_; (conv => arg 9; simp only [put_lit, put_lit_none, List.set]))
    | (refine wpLex_plain (by rfl) ?_
       apply Exists.intro
       refine ⟨?_, ?_⟩
       · intro w' hb
         have hsz := hb.size
         try simp at hsz
         have hcw := fun b o (h : b < w.heap.size) => hb.cell (p := ⟨b, o, none⟩) h
         have hfw := fun b o (h : b < w.heap.size) => hb.frozen (p := ⟨b, o, none⟩) h
         go_simp
         first
           | exact ⟨rfl, hb⟩
           | exact rfl
           | ((with_reducible refine Calls.mono (HM.out _) ?_); rintro e w2 ⟨rfl, rfl⟩; exact ⟨_, rfl, rfl, hb⟩)
       conv => arg 9; simp only [put_lit, put_lit_none, List.set]))
  refine wpLex_nil ?_
  intro wr hbr
  have hsr := hbr.size
  try simp at hsr
  have hcr := fun b o (h : b < w.heap.size) => hbr.cell (p := ⟨b, o, none⟩) h
  have hfr := fun b o (h : b < w.heap.size) => hbr.frozen (p := ⟨b, o, none⟩) h
  have HBr := Lib.hid hbr
  clear hbr
  go_wp2
  go_ret
  exact ⟨by rw [← HP.out]; rfl, (by repeat' (first | (with_reducible exact Below.refl _ _) | (with_reducible (refine Below.setCell ?_ ?_ _)) | (with_reducible (refine Below.alloc ?_ ?_ _)) | (with_reducible (refine Below.drew ?_)) | (with_reducible (refine below_via ?_ HBr.out ?_)) | omega | (simp; done) | (simp; omega)))⟩

set_option maxRecDepth 100000 in
set_option maxHeartbeats 1000000 in
theorem wget_any (x at_ n : Int) (hx : 0 ≤ x ∧ x ≤ 18446744073709551615) (h0 : 1 ≤ n) (h1 : n ≤ 64) (h2 : 0 ≤ at_) (h3 : at_ ≤ 64 - n) (w : World) :
    Calls Try.prog 86 #[.int .u64 x, .int .i64 at_, .int .i64 n] w fun e w' => e = .returned (.tuple #[.int .u64 (partOf x at_ n), .int .i64 0]) ∧ Below w.heap.size w w' := by
  have HL := Lib.hid (fun W => flow_any at_ n 0 h0 h1 W)
  have HM := Lib.hid (fun W => fmay_any at_ n 0 ⟨h0, h1, h2, h3, Int.le_refl 0, (lowOf_word n h0 h1).1⟩ W)
  have HP := Lib.hid (part_bits x at_ n hx h0 h1 h2)
  obtain ⟨hx0, hx1⟩ := hx
  go_enter Try.func86, Try.ntmps86
  go_wp2_with fail
  refine Calls.mono (HM.out _) ?_
  rintro e w1 ⟨rfl, hb1⟩
  have hs1 := hb1.size
  try simp at hs1
  have hc1_0 := fun o => (bcell hb1).1 (w.heap.size) o (by first | omega | (simp; done) | (simp; omega))
  have hf1_0 := fun o => (bcell hb1).2.1 (w.heap.size) o (by first | omega | (simp; done) | (simp; omega))
  have hz1_0 := (bcell hb1).2.2 (w.heap.size) (by first | omega | (simp; done) | (simp; omega))
  have HB1 := Lib.hid hb1
  clear hb1
  go_wp2_with fail
  refine wp_region_class (fun w' => Below (w1.heap.size) (w1) w') (by kernel_rfl) (by kernel_rfl) (Below.refl _ _).drew ?_
  repeat (first
    | (refine wpLex_pass (by rfl) passes_plain ?_; (conv => arg 9; simp only [put_lit, put_lit_none, List.set]))
    | (refine wpLex_plain (by rfl) ?_
       apply Exists.intro
       refine ⟨?_, ?_⟩
       · intro w' hb
         have hsz := hb.size
         try simp at hsz
         have hcw := fun b o (h : b < w1.heap.size) => hb.cell (p := ⟨b, o, none⟩) h
         have hfw := fun b o (h : b < w1.heap.size) => hb.frozen (p := ⟨b, o, none⟩) h
         go_simp
         first
           | exact ⟨rfl, hb⟩
           | exact rfl
           | ((with_reducible refine Calls.mono (HL.out _) ?_); rintro e w2 ⟨rfl, hb2⟩; exact ⟨_, rfl, rfl, hb.trans (hb2.mono hsz)⟩)
       conv => arg 9; simp only [put_lit, put_lit_none, List.set]))
  refine wpLex_nil ?_
  intro wr hbr
  have hsr := hbr.size
  try simp at hsr
  have hcr := fun b o (h : b < w1.heap.size) => hbr.cell (p := ⟨b, o, none⟩) h
  have hfr := fun b o (h : b < w1.heap.size) => hbr.frozen (p := ⟨b, o, none⟩) h
  have HBr := Lib.hid hbr
  clear hbr
  go_wp2
  go_ret2
  exact ⟨by rw [← HP.out]; rfl, (by repeat' (first | (with_reducible exact Below.refl _ _) | (with_reducible (refine Below.setCell ?_ ?_ _)) | (with_reducible (refine Below.alloc ?_ ?_ _)) | (with_reducible (refine Below.drew ?_)) | (with_reducible (refine below_via ?_ HBr.out ?_)) | (with_reducible (refine below_via ?_ HB1.out ?_)) | omega | (simp; done) | (simp; omega)))⟩

theorem i64_part (x at_ n : Int) (h1 : n ≤ 32) : IntKind.i64.wrap (partOf x at_ n) = partOf x at_ n := by
  have h := part_range x at_ n
  refine IntWalk.i64_in _ ⟨by omega, ?_⟩
  have h2 : lowOf n ≤ lowOf 32 := by
    unfold lowOf
    have := Nat.pow_le_pow_right (n := 2) (by decide) (show n.toNat ≤ 32 by omega)
    have e : (2 : Int) ^ n.toNat = ((2 ^ n.toNat : Nat) : Int) := by simp
    rw [e]
    show _ ≤ (4294967295 : Int)
    omega
  have h3 : lowOf 32 = 4294967295 := by decide
  omega

set_option maxRecDepth 100000 in
set_option maxHeartbeats 1000000 in
theorem part_any (x at_ n : Int) (hx : 0 ≤ x ∧ x ≤ 18446744073709551615) (h0 : 1 ≤ n) (h1 : n ≤ 32) (h2 : 0 ≤ at_) (h3 : at_ ≤ 64 - n) (w : World) :
    Calls Try.prog 76 #[.int .u64 x, .int .i64 at_, .int .i64 n] w fun e w' => e = .returned (.int .i64 (partOf x at_ n)) ∧ Below w.heap.size w w' := by
  have HG := Lib.hid (fun W => wget_any x at_ n hx h0 (by omega) h2 h3 W)
  have HP := i64_part x at_ n h1
  go_enter Try.func76, Try.ntmps76
  go_wp2_with fail
  refine Calls.mono (HG.out _) ?_
  rintro e w1 ⟨rfl, hb1⟩
  have hs1 := hb1.size
  try simp at hs1
  have HB1 := Lib.hid hb1
  clear hb1
  go_wp2
  go_ret
  exact ⟨rfl, (by repeat' (first | (with_reducible exact Below.refl _ _) | (with_reducible (refine Below.setCell ?_ ?_ _)) | (with_reducible (refine Below.alloc ?_ ?_ _)) | (with_reducible (refine Below.drew ?_)) | (with_reducible (refine below_via ?_ HB1.out ?_)) | omega | (simp; done) | (simp; omega)))⟩

/-- Is a bit there? -/
def bitOf (x at_ : Int) : Bool := partOf x at_ 1 == 1

theorem low_one : lowOf 1 = 1 := by decide
theorem set_any (x at_ : Int) (hx : 0 ≤ x ∧ x ≤ 18446744073709551615) (h2 : 0 ≤ at_) (h3 : at_ ≤ 63) (w : World) :
    Calls Try.prog 62 #[.int .u64 x, .int .i64 at_] w fun e w' => e = .returned (.bool (bitOf x at_)) ∧ w' = w := by
  have HP := Lib.hid (part_bits x at_ 1 hx (by omega) (by omega) h2)
  obtain ⟨hx0, hx1⟩ := hx
  go_enter Try.func62, Try.ntmps62
  go_wp2
  go_ret
  exact ⟨by unfold bitOf; rw [← HP.out, low_one]; rfl, rfl⟩

end Go.Proofs.Ytddbndmbcdeggaa
