/-
  Fields of words: the masks, whether a field may be, some bits of a word. Conditions: the field lies within 64 bits.
  The page's own masks and fields; some bits of a word, read. Conditions: the field lies within 64 bits.
  All fields' word, as the program and the page join them. Conditions: the fields may be, and no two have a bit in common.
-/
import Derived.Test.YtddbndmbcdeggaaRows
import Derived.Test.YtddbndmbcdeggaaNew
import Derived.Test.YtddbndmbcdeggaaSlice
import Derived.Laws.BitsAllLaws
import Derived.Deep.Cut
namespace Go.Proofs.Ytddbndmbcdeggaa
open Go.RowKit

/-- The n lowest bits, all ones. -/
def lowOf (n : Int) : Int := 2 ^ n.toNat - 1
theorem lowOf_nat (n : Nat) : lowOf (n : Int) = ((2 ^ n - 1 : Nat) : Int) := by
  unfold lowOf
  have := Nat.two_pow_pos n
  rw [Int.toNat_natCast, Int.natCast_sub this]
  simp
theorem shr_low : ∀ n : Nat, n ≤ 64 → 18446744073709551615 / 2 ^ (64 - n) = 2 ^ n - 1 := by decide +kernel
theorem low_shift (n : Int) (h0 : 1 ≤ n) (h1 : n ≤ 64) : (18446744073709551615 : Int) / 2 ^ (64 - n).toNat = lowOf n := by
  obtain ⟨k, rfl⟩ := Int.eq_ofNat_of_zero_le (show 0 ≤ n by omega)
  rw [lowOf_nat, ← shr_low k (by omega), show (64 - (k : Int)).toNat = 64 - k by omega]
  simp
theorem low_lt : ∀ n : Nat, n ≤ 64 → 2 ^ n - 1 < 18446744073709551616 := by decide +kernel
theorem lowOf_word (n : Int) (h0 : 1 ≤ n) (h1 : n ≤ 64) : 0 ≤ lowOf n ∧ lowOf n ≤ 18446744073709551615 := by
  obtain ⟨k, rfl⟩ := Int.eq_ofNat_of_zero_le (show 0 ≤ n by omega)
  rw [lowOf_nat]
  have := low_lt k (by omega)
  omega

/-- No bit of v lies above the n lowest. -/
theorem fits_low (n v : Int) (h0 : 1 ≤ n) (h1 : n ≤ 64) (h2 : 0 ≤ v) (h3 : v ≤ lowOf n) : bits .andNot .u64 v (lowOf n) = 0 := by
  obtain ⟨k, rfl⟩ := Int.eq_ofNat_of_zero_le (show 0 ≤ n by omega)
  obtain ⟨x, rfl⟩ := Int.eq_ofNat_of_zero_le h2
  rw [lowOf_nat] at *
  have hl := low_lt k (by omega)
  have hp := Nat.two_pow_pos k
  rw [u64_andNot_nat _ _ (by omega) hl]
  have hx : x < 2 ^ k := by omega
  rw [show (18446744073709551615 : Nat) - (2 ^ k - 1) = 2 ^ 64 - (2 ^ k - 1 + 1) by omega]
  suffices h : x &&& (2 ^ 64 - (2 ^ k - 1 + 1)) = 0 by rw [h]; rfl
  apply Nat.eq_of_testBit_eq
  intro i
  rw [Nat.testBit_and, Nat.testBit_two_pow_sub_succ (by omega), Nat.testBit_two_pow_sub_one, Nat.zero_testBit]
  by_cases hi : i < k
  · simp [hi]
  · have : x.testBit i = false := Nat.testBit_lt_two_pow (Nat.lt_of_lt_of_le hx (Nat.pow_le_pow_right (by decide) (by omega)))
    simp [this]

structure Fd where
  at_ : Int
  n : Int
  v : Int
def Fd.cells (f : Fd) : List Value := [.int .i64 f.at_, .int .i64 f.n, .int .u64 f.v]
theorem fd_len (f : Fd) : f.cells.length = 3 := rfl
/-- A field that may be. -/
def FdOk (f : Fd) : Prop := 1 ≤ f.n ∧ f.n ≤ 64 ∧ 0 ≤ f.at_ ∧ f.at_ ≤ 64 - f.n ∧ 0 ≤ f.v ∧ f.v ≤ lowOf f.n
def maskAt (at_ n : Int) : Int := IntKind.u64.wrap (lowOf n * 2 ^ at_.toNat)

set_option maxRecDepth 100000 in
set_option maxHeartbeats 1000000 in
theorem flow_any (at_ n v : Int) (h0 : 1 ≤ n) (h1 : n ≤ 64) (w : World) :
    Calls Try.prog 93 #[.agg #[.int .i64 at_, .int .i64 n, .int .u64 v]] w fun e w' => e = .returned (.int .u64 (lowOf n)) ∧ Below w.heap.size w w' := by
  have HL := Lib.hid (low_shift n h0 h1)
  go_enter Try.func93, Try.ntmps93
  go_wp2
  go_ret
  exact ⟨by rw [HL.out]; rfl, (Below.refl _ _).alloc (Nat.le_refl _) _⟩

set_option maxRecDepth 100000 in
set_option maxHeartbeats 1000000 in
theorem fmask_any (at_ n v : Int) (h0 : 1 ≤ n) (h1 : n ≤ 64) (h2 : 0 ≤ at_) (h3 : at_ ≤ 64 - n) (w : World) :
    Calls Try.prog 95 #[.agg #[.int .i64 at_, .int .i64 n, .int .u64 v]] w fun e w' => e = .returned (.int .u64 (maskAt at_ n)) ∧ Below w.heap.size w w' := by
  have HL := Lib.hid (fun W => flow_any at_ n v h0 h1 W)
  go_enter Try.func95, Try.ntmps95
  go_wp2_with fail
  refine wp_region_class (fun w' => Below (w.heap.size + 1) (w.alloc (.cells #[.int .i64 at_, .int .i64 n, .int .u64 v] 136)) w') (by kernel_rfl) (by kernel_rfl) (Below.refl _ _).drew ?_
  repeat (first
    | (refine wpLex_pass (by rfl) passes_plain ?_; (conv => arg 9; simp only [put_lit, put_lit_none, List.set]))
    | (refine wpLex_plain (by rfl) ?_
       apply Exists.intro
       refine ⟨?_, ?_⟩
       · intro w' hb
         have hsz := hb.size
         try simp at hsz
         have hcw := fun b o (h : b < w.heap.size + 1) => hb.cell (p := ⟨b, o, none⟩) h
         have hfw := fun b o (h : b < w.heap.size + 1) => hb.frozen (p := ⟨b, o, none⟩) h
         go_simp
         first
           | exact ⟨rfl, hb⟩
           | exact rfl
           | ((with_reducible refine Calls.mono (HL.out _) ?_); rintro e w2 ⟨rfl, hb2⟩; exact ⟨_, rfl, rfl, hb.trans (hb2.mono hsz)⟩)
       conv => arg 9; simp only [put_lit, put_lit_none, List.set]))
  refine wpLex_nil ?_
  intro wr hbr
  have hsr := hbr.size
  try simp at hsr
  have hcr := fun b o (h : b < w.heap.size + 1) => hbr.cell (p := ⟨b, o, none⟩) h
  have hfr := fun b o (h : b < w.heap.size + 1) => hbr.frozen (p := ⟨b, o, none⟩) h
  have HBr := Lib.hid hbr
  clear hbr
  go_wp2
  go_ret
  exact ⟨rfl, (by repeat' (first | (with_reducible exact Below.refl _ _) | (with_reducible (refine Below.setCell ?_ ?_ _)) | (with_reducible (refine Below.alloc ?_ ?_ _)) | (with_reducible (refine Below.drew ?_)) | (with_reducible (refine below_via ?_ HBr.out ?_)) | omega | (simp; done) | (simp; omega)))⟩

set_option maxRecDepth 100000 in
set_option maxHeartbeats 1000000 in
theorem fmay_any (at_ n v : Int) (h : FdOk ⟨at_, n, v⟩) (w : World) :
    Calls Try.prog 92 #[.agg #[.int .i64 at_, .int .i64 n, .int .u64 v]] w fun e w' => e = .returned (.bool true) ∧ Below w.heap.size w w' := by
  obtain ⟨h0, h1, h2, h3, h4, h5⟩ := h
  dsimp only at *
  have HL := Lib.hid (fun W => flow_any at_ n v h0 h1 W)
  have q0 : decide ((1 : Int) ≤ n) = true := by simpa using h0
  have q1 : decide (n ≤ 64) = true := by simpa using h1
  have q2 : decide ((0 : Int) ≤ at_) = true := by simpa using h2
  have q3 : decide (at_ ≤ 64 - n) = true := by simpa using h3
  have q5 : IntKind.i64.wrap (64 - n) = 64 - n := IntWalk.i64_in _ (by omega)
  have q4 := fits_low n v h0 h1 h4 h5
  go_enter Try.func92, Try.ntmps92
  go_wp2_with fail
  refine wp_region_class (fun w' => Below (w.heap.size + 1) (w.alloc (.cells #[.int .i64 at_, .int .i64 n, .int .u64 v] 136)) w') (by kernel_rfl) (by kernel_rfl) (Below.refl _ _).drew ?_
  repeat (first
    | (refine wpLex_pass (by rfl) passes_plain ?_; (conv => arg 9; simp only [put_lit, put_lit_none, List.set]))
    | (refine wpLex_plain (by rfl) ?_
       apply Exists.intro
       refine ⟨?_, ?_⟩
       · intro w' hb
         have hsz := hb.size
         try simp at hsz
         have hcw := fun b o (h : b < w.heap.size + 1) => hb.cell (p := ⟨b, o, none⟩) h
         have hfw := fun b o (h : b < w.heap.size + 1) => hb.frozen (p := ⟨b, o, none⟩) h
         go_simp
         first
           | exact ⟨rfl, hb⟩
           | exact rfl
           | ((with_reducible refine Calls.mono (HL.out _) ?_); rintro e w2 ⟨rfl, hb2⟩; exact ⟨_, rfl, rfl, hb.trans (hb2.mono hsz)⟩)
       conv => arg 9; simp only [put_lit, put_lit_none, List.set]))
  refine wpLex_nil ?_
  intro wr hbr
  have hsr := hbr.size
  try simp at hsr
  have hcr := fun b o (h : b < w.heap.size + 1) => hbr.cell (p := ⟨b, o, none⟩) h
  have hfr := fun b o (h : b < w.heap.size + 1) => hbr.frozen (p := ⟨b, o, none⟩) h
  have HBr := Lib.hid hbr
  clear hbr
  go_wp2
  go_ret
  exact ⟨rfl, (by repeat' (first | (with_reducible exact Below.refl _ _) | (with_reducible (refine Below.setCell ?_ ?_ _)) | (with_reducible (refine Below.alloc ?_ ?_ _)) | (with_reducible (refine Below.drew ?_)) | (with_reducible (refine below_via ?_ HBr.out ?_)) | omega | (simp; done) | (simp; omega)))⟩

end Go.Proofs.Ytddbndmbcdeggaa

namespace Go.Proofs.Ytddbndmbcdeggaa
open Go.RowKit

theorem shl_one : ∀ n : Nat, n < 64 → (2 ^ n % 18446744073709551616 + 18446744073709551615) % 18446744073709551616 = 2 ^ n - 1 := by decide +kernel
theorem shl_low (n : Int) (h0 : 1 ≤ n) (h1 : n < 64) : IntKind.u64.wrap (IntKind.u64.wrap (1 * 2 ^ n.toNat) - 1) = lowOf n := by
  obtain ⟨k, rfl⟩ := Int.eq_ofNat_of_zero_le (show 0 ≤ n by omega)
  rw [lowOf_nat, Int.toNat_natCast, IntKind.wrap_u64, IntKind.wrap_u64]
  have h2 : (2 : Int) ^ k = ((2 ^ k : Nat) : Int) := by simp
  have h3 := low_lt k (by omega)
  have h4 := Nat.two_pow_pos k
  rw [h2]
  omega

theorem rmask_any (n : Int) (h0 : 1 ≤ n) (h1 : n ≤ 64) (w : World) : Calls Try.prog 80 #[.int .i64 n] w fun e w' => e = .returned (.int .u64 (lowOf n)) ∧ w' = w := by
  by_cases h : n = 64
  · subst h
    go_enter Try.func80, Try.ntmps80
    go_wp2
    go_ret
    exact ⟨rfl, rfl⟩
  · have q0 : decide ((64 : Int) ≤ n) = false := by simp; omega
    have HL := Lib.hid (shl_low n h0 (by omega))
    clear h
    go_enter Try.func80, Try.ntmps80
    go_wp2
    go_ret
    exact ⟨by rw [← HL.out]; first | rfl | simp, rfl⟩

theorem rfits_any (at_ n : Int) (h0 : 1 ≤ n) (h1 : n ≤ 64) (h2 : 0 ≤ at_) (h3 : at_ ≤ 64 - n) (w : World) :
    Calls Try.prog 96 #[.int .i64 at_, .int .i64 n] w fun e w' => e = .returned (.bool true) ∧ w' = w := by
  have q0 : decide ((0 : Int) ≤ at_) = true := by simpa using h2
  have q1 : decide (at_ ≤ 63) = true := by simp; omega
  have q2 : decide ((1 : Int) ≤ n) = true := by simpa using h0
  have q3 : decide (n ≤ 64 - at_) = true := by simp; omega
  have q4 : IntKind.i64.wrap (64 - at_) = 64 - at_ := IntWalk.i64_in _ (by omega)
  go_enter Try.func96, Try.ntmps96
  go_wp2
  go_ret
  exact ⟨rfl, rfl⟩

set_option maxRecDepth 100000 in
set_option maxHeartbeats 1000000 in
theorem rfield_any (at_ n v : Int) (h : FdOk ⟨at_, n, v⟩) (w : World) :
    Calls Try.prog 90 #[.agg #[.int .i64 at_, .int .i64 n, .int .u64 v]] w fun e w' => e = .returned (.bool true) ∧ Below w.heap.size w w' := by
  obtain ⟨h0, h1, h2, h3, h4, h5⟩ := h
  dsimp only at *
  have HF := Lib.hid (fun W => rfits_any at_ n h0 h1 h2 h3 W)
  have HM := Lib.hid (fun W => rmask_any n h0 h1 W)
  have q4 := fits_low n v h0 h1 h4 h5
  go_enter Try.func90, Try.ntmps90
  go_wp2_with fail
  refine wp_region_class (fun w' => Below (w.heap.size + 1) (w.alloc (.cells #[.int .i64 at_, .int .i64 n, .int .u64 v] 124)) w') (by kernel_rfl) (by kernel_rfl) (Below.refl _ _).drew ?_
  repeat (first
    | (refine wpLex_pass (by rfl) passes_plain ?_; (conv => arg 9; simp only [put_lit, put_lit_none, List.set]))
    | (refine wpLex_plain (by rfl) ?_
       apply Exists.intro
       refine ⟨?_, ?_⟩
       · intro w' hb
         have hsz := hb.size
         try simp at hsz
         have hcw := fun b o (h : b < w.heap.size + 1) => hb.cell (p := ⟨b, o, none⟩) h
         have hfw := fun b o (h : b < w.heap.size + 1) => hb.frozen (p := ⟨b, o, none⟩) h
         go_simp
         first
           | exact ⟨rfl, hb⟩
           | exact rfl
           | ((with_reducible refine Calls.mono (HF.out _) ?_); rintro e w2 ⟨rfl, rfl⟩; exact ⟨_, rfl, rfl, hb⟩)
           | ((with_reducible refine Calls.mono (HM.out _) ?_); rintro e w2 ⟨rfl, rfl⟩; exact ⟨_, rfl, rfl, hb⟩)
       conv => arg 9; simp only [put_lit, put_lit_none, List.set]))
  refine wpLex_nil ?_
  intro wr hbr
  have hsr := hbr.size
  try simp at hsr
  have hcr := fun b o (h : b < w.heap.size + 1) => hbr.cell (p := ⟨b, o, none⟩) h
  have hfr := fun b o (h : b < w.heap.size + 1) => hbr.frozen (p := ⟨b, o, none⟩) h
  have HBr := Lib.hid hbr
  clear hbr
  go_wp2
  go_ret
  exact ⟨rfl, (by repeat' (first | (with_reducible exact Below.refl _ _) | (with_reducible (refine Below.setCell ?_ ?_ _)) | (with_reducible (refine Below.alloc ?_ ?_ _)) | (with_reducible (refine Below.drew ?_)) | (with_reducible (refine below_via ?_ HBr.out ?_)) | omega | (simp; done) | (simp; omega)))⟩

/-- Some bits of a word. -/
def partOf (x at_ n : Int) : Int := x / 2 ^ at_.toNat % 2 ^ n.toNat
theorem part_bits (x at_ n : Int) (hx : 0 ≤ x ∧ x ≤ 18446744073709551615) (h0 : 1 ≤ n) (h1 : n ≤ 64) (_ : 0 ≤ at_) : bits .and .u64 (x / 2 ^ at_.toNat) (lowOf n) = partOf x at_ n := by
  obtain ⟨k, rfl⟩ := Int.eq_ofNat_of_zero_le (show 0 ≤ n by omega)
  obtain ⟨y, rfl⟩ := Int.eq_ofNat_of_zero_le hx.1
  have hy : y / 2 ^ at_.toNat < 18446744073709551616 := Nat.lt_of_le_of_lt (Nat.div_le_self _ _) (by omega)
  have hl := low_lt k (by omega)
  have e : ((y : Int) / 2 ^ at_.toNat) = ((y / 2 ^ at_.toNat : Nat) : Int) := by simp
  unfold partOf
  rw [lowOf_nat, Int.toNat_natCast, e, u64_and_nat _ _ hy hl, Nat.and_two_pow_sub_one_eq_mod]
  simp
theorem part_range (x at_ n : Int) : 0 ≤ partOf x at_ n ∧ partOf x at_ n ≤ lowOf n := by
  unfold partOf lowOf
  have h : (0 : Int) < 2 ^ n.toNat := Int.pow_pos (by decide)
  exact ⟨Int.emod_nonneg _ (by omega), by have := Int.emod_lt_of_pos (x / 2 ^ at_.toNat) h; omega⟩

set_option maxRecDepth 100000 in
set_option maxHeartbeats 1000000 in
theorem rget_any (x at_ n : Int) (hx : 0 ≤ x ∧ x ≤ 18446744073709551615) (h0 : 1 ≤ n) (h1 : n ≤ 64) (h2 : 0 ≤ at_) (h3 : at_ ≤ 64 - n) (w : World) :
    Calls Try.prog 63 #[.int .u64 x, .int .i64 at_, .int .i64 n] w fun e w' => e = .returned (.int .u64 (partOf x at_ n)) ∧ Below w.heap.size w w' := by
  have HM := Lib.hid (fun W => rmask_any n h0 h1 W)
  have HP := Lib.hid (part_bits x at_ n hx h0 h1 h2)
  obtain ⟨hx0, hx1⟩ := hx
  go_enter Try.func63, Try.ntmps63
  go_wp2_with fail
  refine wp_region_class (fun w' => Below (w.heap.size) (w) w') (by kernel_rfl) (by kernel_rfl) (Below.refl _ _).drew ?_
  repeat (first
    | (refine wpLex_pass (by rfl) passes_plain ?_; (conv => arg 9; simp only [put_lit, put_lit_none, List.set]))
    | (refine wpLex_plain (by rfl) ?_
       apply Exists.intro
       refine ⟨?_, ?_⟩
       · intro w' hb
         have hsz := hb.size
         try simp at hsz
         have hcw := fun b o (h : b < w.heap.size) => hb.cell (p := ⟨b, o, none⟩) h
         have hfw := fun b o (h : b < w.heap.size) => hb.frozen (p := ⟨b, o, none⟩) h
         go_simp
         first
           | exact ⟨rfl, hb⟩
           | exact rfl
           | ((with_reducible refine Calls.mono (HM.out _) ?_); rintro e w2 ⟨rfl, rfl⟩; exact ⟨_, rfl, rfl, hb⟩)
       conv => arg 9; simp only [put_lit, put_lit_none, List.set]))
  refine wpLex_nil ?_
  intro wr hbr
  have hsr := hbr.size
  try simp at hsr
  have hcr := fun b o (h : b < w.heap.size) => hbr.cell (p := ⟨b, o, none⟩) h
  have hfr := fun b o (h : b < w.heap.size) => hbr.frozen (p := ⟨b, o, none⟩) h
  have HBr := Lib.hid hbr
  clear hbr
  go_wp2
  go_ret
  exact ⟨by rw [← HP.out]; rfl, (by repeat' (first | (with_reducible exact Below.refl _ _) | (with_reducible (refine Below.setCell ?_ ?_ _)) | (with_reducible (refine Below.alloc ?_ ?_ _)) | (with_reducible (refine Below.drew ?_)) | (with_reducible (refine below_via ?_ HBr.out ?_)) | omega | (simp; done) | (simp; omega)))⟩

set_option maxRecDepth 100000 in
set_option maxHeartbeats 1000000 in
theorem wget_any (x at_ n : Int) (hx : 0 ≤ x ∧ x ≤ 18446744073709551615) (h0 : 1 ≤ n) (h1 : n ≤ 64) (h2 : 0 ≤ at_) (h3 : at_ ≤ 64 - n) (w : World) :
    Calls Try.prog 86 #[.int .u64 x, .int .i64 at_, .int .i64 n] w fun e w' => e = .returned (.tuple #[.int .u64 (partOf x at_ n), .int .i64 0]) ∧ Below w.heap.size w w' := by
  have HL := Lib.hid (fun W => flow_any at_ n 0 h0 h1 W)
  have HM := Lib.hid (fun W => fmay_any at_ n 0 ⟨h0, h1, h2, h3, Int.le_refl 0, (lowOf_word n h0 h1).1⟩ W)
  have HP := Lib.hid (part_bits x at_ n hx h0 h1 h2)
  obtain ⟨hx0, hx1⟩ := hx
  go_enter Try.func86, Try.ntmps86
  go_wp2_with fail
  refine Calls.mono (HM.out _) ?_
  rintro e w1 ⟨rfl, hb1⟩
  have hs1 := hb1.size
  try simp at hs1
  have hc1_0 := fun o => (bcell hb1).1 (w.heap.size) o (by first | omega | (simp; done) | (simp; omega))
  have hf1_0 := fun o => (bcell hb1).2.1 (w.heap.size) o (by first | omega | (simp; done) | (simp; omega))
  have hz1_0 := (bcell hb1).2.2 (w.heap.size) (by first | omega | (simp; done) | (simp; omega))
  have HB1 := Lib.hid hb1
  clear hb1
  go_wp2_with fail
  refine wp_region_class (fun w' => Below (w1.heap.size) (w1) w') (by kernel_rfl) (by kernel_rfl) (Below.refl _ _).drew ?_
  repeat (first
    | (refine wpLex_pass (by rfl) passes_plain ?_; (conv => arg 9; simp only [put_lit, put_lit_none, List.set]))
    | (refine wpLex_plain (by rfl) ?_
       apply Exists.intro
       refine ⟨?_, ?_⟩
       · intro w' hb
         have hsz := hb.size
         try simp at hsz
         have hcw := fun b o (h : b < w1.heap.size) => hb.cell (p := ⟨b, o, none⟩) h
         have hfw := fun b o (h : b < w1.heap.size) => hb.frozen (p := ⟨b, o, none⟩) h
         go_simp
         first
           | exact ⟨rfl, hb⟩
           | exact rfl
           | ((with_reducible refine Calls.mono (HL.out _) ?_); rintro e w2 ⟨rfl, hb2⟩; exact ⟨_, rfl, rfl, hb.trans (hb2.mono hsz)⟩)
       conv => arg 9; simp only [put_lit, put_lit_none, List.set]))
  refine wpLex_nil ?_
  intro wr hbr
  have hsr := hbr.size
  try simp at hsr
  have hcr := fun b o (h : b < w1.heap.size) => hbr.cell (p := ⟨b, o, none⟩) h
  have hfr := fun b o (h : b < w1.heap.size) => hbr.frozen (p := ⟨b, o, none⟩) h
  have HBr := Lib.hid hbr
  clear hbr
  go_wp2
  go_ret2
  exact ⟨by rw [← HP.out]; rfl, (by repeat' (first | (with_reducible exact Below.refl _ _) | (with_reducible (refine Below.setCell ?_ ?_ _)) | (with_reducible (refine Below.alloc ?_ ?_ _)) | (with_reducible (refine Below.drew ?_)) | (with_reducible (refine below_via ?_ HBr.out ?_)) | (with_reducible (refine below_via ?_ HB1.out ?_)) | omega | (simp; done) | (simp; omega)))⟩

theorem i64_part (x at_ n : Int) (h1 : n ≤ 32) : IntKind.i64.wrap (partOf x at_ n) = partOf x at_ n := by
  have h := part_range x at_ n
  refine IntWalk.i64_in _ ⟨by omega, ?_⟩
  have h2 : lowOf n ≤ lowOf 32 := by
    unfold lowOf
    have := Nat.pow_le_pow_right (n := 2) (by decide) (show n.toNat ≤ 32 by omega)
    have e : (2 : Int) ^ n.toNat = ((2 ^ n.toNat : Nat) : Int) := by simp
    rw [e]
    show _ ≤ (4294967295 : Int)
    omega
  have h3 : lowOf 32 = 4294967295 := by decide
  omega

set_option maxRecDepth 100000 in
set_option maxHeartbeats 1000000 in
theorem part_any (x at_ n : Int) (hx : 0 ≤ x ∧ x ≤ 18446744073709551615) (h0 : 1 ≤ n) (h1 : n ≤ 32) (h2 : 0 ≤ at_) (h3 : at_ ≤ 64 - n) (w : World) :
    Calls Try.prog 76 #[.int .u64 x, .int .i64 at_, .int .i64 n] w fun e w' => e = .returned (.int .i64 (partOf x at_ n)) ∧ Below w.heap.size w w' := by
  have HG := Lib.hid (fun W => wget_any x at_ n hx h0 (by omega) h2 h3 W)
  have HP := i64_part x at_ n h1
  go_enter Try.func76, Try.ntmps76
  go_wp2_with fail
  refine Calls.mono (HG.out _) ?_
  rintro e w1 ⟨rfl, hb1⟩
  have hs1 := hb1.size
  try simp at hs1
  have HB1 := Lib.hid hb1
  clear hb1
  go_wp2
  go_ret
  exact ⟨rfl, (by repeat' (first | (with_reducible exact Below.refl _ _) | (with_reducible (refine Below.setCell ?_ ?_ _)) | (with_reducible (refine Below.alloc ?_ ?_ _)) | (with_reducible (refine Below.drew ?_)) | (with_reducible (refine below_via ?_ HB1.out ?_)) | omega | (simp; done) | (simp; omega)))⟩

/-- Is a bit there? -/
def bitOf (x at_ : Int) : Bool := partOf x at_ 1 == 1

theorem low_one : lowOf 1 = 1 := by decide
theorem set_any (x at_ : Int) (hx : 0 ≤ x ∧ x ≤ 18446744073709551615) (h2 : 0 ≤ at_) (h3 : at_ ≤ 63) (w : World) :
    Calls Try.prog 62 #[.int .u64 x, .int .i64 at_] w fun e w' => e = .returned (.bool (bitOf x at_)) ∧ w' = w := by
  have HP := Lib.hid (part_bits x at_ 1 hx (by omega) (by omega) h2)
  obtain ⟨hx0, hx1⟩ := hx
  go_enter Try.func62, Try.ntmps62
  go_wp2
  go_ret
  exact ⟨by unfold bitOf; rw [← HP.out, low_one]; rfl, rfl⟩

end Go.Proofs.Ytddbndmbcdeggaa

namespace Go.Proofs.Ytddbndmbcdeggaa
open Go.RowKit

def joinStep (a : Int) (f : Fd) : Int := bits .or .u64 a (IntKind.u64.wrap (f.v * 2 ^ f.at_.toNat))
def takenStep (a : Int) (f : Fd) : Int := bits .or .u64 a (maskAt f.at_ f.n)
def joinW (l : List Fd) : Int := l.foldl joinStep 0
def takenW (l : List Fd) : Int := l.foldl takenStep 0
theorem joinW_take (l : List Fd) (k : Nat) (h : k < l.length) : joinW (l.take (k + 1)) = joinStep (joinW (l.take k)) l[k] := by
  unfold joinW
  rw [List.take_succ_eq_append_getElem h, List.foldl_append]
  rfl
theorem takenW_take (l : List Fd) (k : Nat) (h : k < l.length) : takenW (l.take (k + 1)) = takenStep (takenW (l.take k)) l[k] := by
  unfold takenW
  rw [List.take_succ_eq_append_getElem h, List.foldl_append]
  rfl
/-- No two have a bit in common. -/
def Disj (l : List Fd) : Prop := ∀ k (h : k < l.length), bits .and .u64 (takenW (l.take k)) (maskAt l[k].at_ l[k].n) = 0

def fieldT : TypeId := 124

theorem fd_cells {w wr : World} {A : Option Addr} {l : List Fd} {k : Nat} (hA : At w A 3 Fd.cells l) (hb : Below w.heap.size w wr) (hk : k < l.length) :
    ∃ b o, A = some ⟨b, o, none⟩ ∧ b < w.heap.size ∧ wr.cell? ⟨b, o + k * 3, none⟩ = some (.int .i64 l[k].at_) ∧ wr.cell? ⟨b, o + k * 3 + 1, none⟩ = some (.int .i64 l[k].n) ∧ wr.cell? ⟨b, o + k * 3 + 2, none⟩ = some (.int .u64 l[k].v) := by
  obtain ⟨b, o, rfl, hbl, hc⟩ := hA (by omega)
  have h := fun j u (hj : (Fd.cells l[k])[j]? = some u) => (hb.cell (p := ⟨b, o + k * 3 + j, none⟩) hbl).trans (hc k hk j u hj)
  exact ⟨b, o, rfl, hbl, h 0 _ rfl, h 1 _ rfl, h 2 _ rfl⟩

set_option maxRecDepth 100000 in
set_option maxHeartbeats 2000000 in
theorem joined_any (A : Option Addr) (c : Nat) (l : List Fd) (w : World) (hl : l.length ≤ 100) (hA : At w A 3 Fd.cells l) (hok : ∀ f ∈ l, FdOk f) (hd : Disj l) :
    Calls Try.prog 88 #[.slice A l.length c] w fun e w' => e = .returned (.tuple #[.int .u64 (joinW l), .int .u64 (takenW l), .int .i64 0]) ∧ Below w.heap.size w w' := by
  have HA := Lib.hid hA
  have HO := Lib.hid hok
  have HD := Lib.hid hd
  clear hA hok hd
  go_enter Try.func88, Try.ntmps88
  go_wp2
  go_loopw [2, 3, 12] (fun v t i wr => ∃ k : Nat, k ≤ l.length ∧ i = .int .i64 k ∧ v = .int .u64 0 ∧ t = .int .u64 0 ∧ Below w.heap.size w wr) (fun _ _ i _ => l.length - (intOf i).toNat)
  case atStart => exact ⟨0, Nat.zero_le _, rfl, rfl, rfl, Below.refl _ _⟩
  case round =>
    obtain ⟨k, hk, rfl, rfl, rfl, hb⟩ := hrel
    have HB := Lib.hid hb
    by_cases hlt : k < l.length
    · obtain ⟨b, o, rfl, hbl, c0, c1, c2⟩ := fd_cells HA.out hb hlt
      have HM := Lib.hid (fun W => fmay_any l[k].at_ l[k].n l[k].v (HO.out _ (List.getElem_mem hlt)) W)
      have hsz := hb.size
      clear hb
      generalize l[k] = f at *
      obtain ⟨fa, fn, fv⟩ := f
      dsimp only at c0 c1 c2 HM
      go_wp2_with fail
      refine Calls.mono (HM.out _) ?_
      rintro e w1 ⟨rfl, hb1⟩
      have hs1 := hb1.size
      try simp at hs1
      have HB1 := Lib.hid hb1
      clear hb1
      go_wp2
      go_roundw
      case rel => exact ⟨k + 1, by omega, by go_num, rfl, rfl, (by repeat' (first | (with_reducible exact Below.refl _ _) | (with_reducible (refine Below.setCell ?_ ?_ _)) | (with_reducible (refine Below.alloc ?_ ?_ _)) | (with_reducible (refine Below.drew ?_)) | (with_reducible (refine below_via ?_ HB1.out ?_)) | (with_reducible (refine below_via ?_ HB.out ?_)) | omega | (simp; done) | (simp; omega)))⟩
      case measure => simp [intOf]; omega
    · obtain rfl : k = l.length := by omega
      clear hb hlt
      go_wp2
      go_loopw [2, 3, 23] (fun v t i wr => ∃ k : Nat, k ≤ l.length ∧ i = .int .i64 k ∧ v = .int .u64 (joinW (l.take k)) ∧ t = .int .u64 (takenW (l.take k)) ∧ Below w.heap.size w wr) (fun _ _ i _ => l.length - (intOf i).toNat)
      case atStart => exact ⟨0, Nat.zero_le _, rfl, rfl, rfl, HB.out⟩
      case round =>
        obtain ⟨k, hk, rfl, rfl, rfl, hb⟩ := hrel
        have HB2 := Lib.hid hb
        by_cases hlt : k < l.length
        · obtain ⟨b, o, rfl, hbl, c0, c1, c2⟩ := fd_cells HA.out hb hlt
          have hF := HO.out _ (List.getElem_mem hlt)
          have HM := Lib.hid (fun v W => fmask_any l[k].at_ l[k].n v hF.1 hF.2.1 hF.2.2.1 hF.2.2.2.1 W)
          have hdk := HD.out k hlt
          have HJ := Lib.hid (joinW_take l k hlt)
          have HT := Lib.hid (takenW_take l k hlt)
          have hsz := hb.size
          have h0 := hF.2.2.1
          have h3 := hF.2.2.2.1
          have h1 := hF.1
          clear hb hF
          generalize l[k] = f at *
          obtain ⟨fa, fn, fv⟩ := f
          dsimp only [joinStep, takenStep] at c0 c1 c2 HM hdk HJ HT h0 h3 h1
          generalize joinW (l.take k) = jw at *
          generalize takenW (l.take k) = tw at *
          have HDK := Lib.hid (show (bits .and .u64 tw (maskAt fa fn) != 0) = false by rw [hdk]; rfl)
          clear hdk
          go_wp2_with fail
          refine Calls.mono (HM.out _ _) ?_
          rintro e w1 ⟨rfl, hb1⟩
          have hs1 := hb1.size
          try simp at hs1
          have hc1_0 := fun o => (bcell hb1).1 (wr.heap.size + 1) o (by first | omega | (simp; done) | (simp; omega))
          have hf1_0 := fun o => (bcell hb1).2.1 (wr.heap.size + 1) o (by first | omega | (simp; done) | (simp; omega))
          have hz1_0 := (bcell hb1).2.2 (wr.heap.size + 1) (by first | omega | (simp; done) | (simp; omega))
          have HB1 := Lib.hid hb1
          clear hb1
          have hdk := HDK.out
          go_wp2_with fail
          refine wp_region_class (fun w' => Below (w1.heap.size) (w1) w') (by kernel_rfl) (by kernel_rfl) (Below.refl _ _).drew ?_
          repeat (first
            | (refine wpLex_pass (by rfl) passes_plain ?_; (conv => arg 9; simp only [put_lit, put_lit_none, List.set]))
            | (refine wpLex_plain (by rfl) ?_
               apply Exists.intro
               refine ⟨?_, ?_⟩
               · intro w' hb
                 have hsz := hb.size
                 try simp at hsz
                 have hcw := fun b o (h : b < w1.heap.size) => hb.cell (p := ⟨b, o, none⟩) h
                 have hfw := fun b o (h : b < w1.heap.size) => hb.frozen (p := ⟨b, o, none⟩) h
                 go_simp
                 first
                   | exact ⟨rfl, hb⟩
                   | exact rfl
                   | ((with_reducible refine Calls.mono (HM.out _ _) ?_); rintro e w2 ⟨rfl, hb2⟩; exact ⟨_, rfl, rfl, hb.trans (hb2.mono hsz)⟩)
               conv => arg 9; simp only [put_lit, put_lit_none, List.set]))
          refine wpLex_nil ?_
          intro wp hbp
          have hsp := hbp.size
          try simp at hsp
          have hcp := fun b o (h : b < w1.heap.size) => hbp.cell (p := ⟨b, o, none⟩) h
          have hfp := fun b o (h : b < w1.heap.size) => hbp.frozen (p := ⟨b, o, none⟩) h
          have HBp := Lib.hid hbp
          clear hbp
          go_wp2
          go_roundw
          case rel => exact ⟨k + 1, by omega, by go_num, by rw [HJ.out], by rw [HT.out], (by repeat' (first | (with_reducible exact Below.refl _ _) | (with_reducible (refine Below.setCell ?_ ?_ _)) | (with_reducible (refine Below.alloc ?_ ?_ _)) | (with_reducible (refine Below.drew ?_)) | (with_reducible (refine below_via ?_ HBp.out ?_)) | (with_reducible (refine below_via ?_ HB1.out ?_)) | (with_reducible (refine below_via ?_ HB2.out ?_)) | omega | (simp; done) | (simp; omega)))⟩
          case measure => simp [intOf]; omega
        · obtain rfl : k = l.length := by omega
          clear hb hlt
          have HL := Lib.hid (List.take_length (l := l))
          go_wp2
          go_ret3
          exact ⟨by rw [HL.out]; rfl, HB2.out⟩

set_option maxRecDepth 100000 in
set_option maxHeartbeats 2000000 in
theorem join_any (A : Option Addr) (c : Nat) (l : List Fd) (w : World) (hl : l.length ≤ 100) (hA : At w A 3 Fd.cells l) (hok : ∀ f ∈ l, FdOk f) (hd : Disj l) :
    Calls Try.prog 78 #[.slice A l.length c] w fun e w' => e = .returned (.tuple #[.int .u64 (joinW l), .int .i64 0]) ∧ Below w.heap.size w w' := by
  have HJ := Lib.hid (joined_any A c l w hl hA hok hd)
  clear hA hok hd
  go_enter Try.func78, Try.ntmps78
  go_wp2_with fail
  refine Calls.mono (HJ.out) ?_
  rintro e w1 ⟨rfl, hb1⟩
  have hs1 := hb1.size
  try simp at hs1
  have HB1 := Lib.hid hb1
  clear hb1
  go_wp2
  go_ret2
  exact ⟨rfl, (by repeat' (first | (with_reducible exact Below.refl _ _) | (with_reducible (refine Below.setCell ?_ ?_ _)) | (with_reducible (refine Below.alloc ?_ ?_ _)) | (with_reducible (refine Below.drew ?_)) | (with_reducible (refine below_via ?_ HB1.out ?_)) | omega | (simp; done) | (simp; omega)))⟩

set_option maxRecDepth 100000 in
set_option maxHeartbeats 2000000 in
theorem rjoin_any (A : Option Addr) (c : Nat) (l : List Fd) (w : World) (hl : l.length ≤ 100) (hA : At w A 3 Fd.cells l) (hok : ∀ f ∈ l, FdOk f) (hd : Disj l) :
    Calls Try.prog 82 #[.slice A l.length c] w fun e w' => e = .returned (.tuple #[.int .u64 (joinW l), .int .u64 (takenW l), .int .i64 0]) ∧ Below w.heap.size w w' := by
  have HA := Lib.hid hA
  have HO := Lib.hid hok
  have HD := Lib.hid hd
  clear hA hok hd
  go_enter Try.func82, Try.ntmps82
  go_wp2
  go_loopw [5] (fun i wr => ∃ k : Nat, k ≤ l.length ∧ i = .int .i64 k ∧ Below w.heap.size w wr) (fun i _ => l.length - (intOf i).toNat)
  case atStart => exact ⟨0, Nat.zero_le _, rfl, Below.refl _ _⟩
  case round =>
    obtain ⟨k, hk, rfl, hb⟩ := hrel
    have HB := Lib.hid hb
    by_cases hlt : k < l.length
    · obtain ⟨b, o, rfl, hbl, c0, c1, c2⟩ := fd_cells HA.out hb hlt
      have HM := Lib.hid (fun W => rfield_any l[k].at_ l[k].n l[k].v (HO.out _ (List.getElem_mem hlt)) W)
      have hsz := hb.size
      clear hb
      generalize l[k] = f at *
      obtain ⟨fa, fn, fv⟩ := f
      dsimp only at c0 c1 c2 HM
      go_wp2_with fail
      refine Calls.mono (HM.out _) ?_
      rintro e w1 ⟨rfl, hb1⟩
      have hs1 := hb1.size
      try simp at hs1
      have HB1 := Lib.hid hb1
      clear hb1
      go_wp2
      go_roundw
      case rel => exact ⟨k + 1, by omega, by go_num, (by repeat' (first | (with_reducible exact Below.refl _ _) | (with_reducible (refine Below.setCell ?_ ?_ _)) | (with_reducible (refine Below.alloc ?_ ?_ _)) | (with_reducible (refine Below.drew ?_)) | (with_reducible (refine below_via ?_ HB1.out ?_)) | (with_reducible (refine below_via ?_ HB.out ?_)) | omega | (simp; done) | (simp; omega)))⟩
      case measure => simp [intOf]; omega
    · obtain rfl : k = l.length := by omega
      clear hb hlt
      go_wp2
      go_loopw [6, 7, 8] (fun v t i wr => ∃ k : Nat, k ≤ l.length ∧ i = .int .i64 k ∧ v = .int .u64 (joinW (l.take k)) ∧ t = .int .u64 (takenW (l.take k)) ∧ Below w.heap.size w wr) (fun _ _ i _ => l.length - (intOf i).toNat)
      case atStart => exact ⟨0, Nat.zero_le _, rfl, rfl, rfl, HB.out⟩
      case round =>
        obtain ⟨k, hk, rfl, rfl, rfl, hb⟩ := hrel
        have HB2 := Lib.hid hb
        by_cases hlt : k < l.length
        · obtain ⟨b, o, rfl, hbl, c0, c1, c2⟩ := fd_cells HA.out hb hlt
          have hF := HO.out _ (List.getElem_mem hlt)
          have HM := Lib.hid (fun W => rmask_any l[k].n hF.1 hF.2.1 W)
          have hdk := HD.out k hlt
          have HJ := Lib.hid (joinW_take l k hlt)
          have HT := Lib.hid (takenW_take l k hlt)
          have hsz := hb.size
          have h0 := hF.2.2.1
          have h3 := hF.2.2.2.1
          have h1 := hF.1
          have hki : (k : Int) < l.length := by omega
          have hki0 : (0 : Int) ≤ (k : Int) := by omega
          clear hb hF
          generalize l[k] = f at *
          obtain ⟨fa, fn, fv⟩ := f
          dsimp only [joinStep, takenStep] at c0 c1 c2 HM hdk HJ HT h0 h3 h1
          generalize joinW (l.take k) = jw at *
          generalize takenW (l.take k) = tw at *
          have HDK := Lib.hid (show (bits .and .u64 tw (maskAt fa fn) != 0) = false by rw [hdk]; rfl)
          clear hdk
          have hbr : b < wr.heap.size := by omega
          go_wp2_with fail
          refine wp_region_class (fun w' => Below (wr.heap.size) (wr) w') (by kernel_rfl) (by kernel_rfl) (Below.refl _ _).drew ?_
          repeat (first
            | (refine wpLex_pass (by rfl) passes_plain ?_; (conv => arg 9; simp only [put_lit, put_lit_none, List.set]))
            | (refine wpLex_plain (by rfl) ?_
               apply Exists.intro
               refine ⟨?_, ?_⟩
               · intro w' hb
                 have hsz := hb.size
                 try simp at hsz
                 have hcw := fun b o (h : b < wr.heap.size) => hb.cell (p := ⟨b, o, none⟩) h
                 have hfw := fun b o (h : b < wr.heap.size) => hb.frozen (p := ⟨b, o, none⟩) h
                 go_simp
                 first
                   | exact ⟨rfl, hb⟩
                   | exact rfl
                   | ((with_reducible refine Calls.mono (HM.out _) ?_); rintro e w2 ⟨rfl, rfl⟩; exact ⟨_, rfl, rfl, hb⟩)
               conv => arg 9; simp only [put_lit, put_lit_none, List.set]))
          refine wpLex_nil ?_
          intro wp hbp
          have hsp := hbp.size
          try simp at hsp
          have hcp := fun b o (h : b < wr.heap.size) => hbp.cell (p := ⟨b, o, none⟩) h
          have hfp := fun b o (h : b < wr.heap.size) => hbp.frozen (p := ⟨b, o, none⟩) h
          have HBp := Lib.hid hbp
          clear hbp
          have hdk := HDK.out
          have hbp2 : b < wp.heap.size := by omega
          unfold maskAt at hdk
          go_wp2_with fail
          refine wp_region_class (fun w' => Below (wp.heap.size) (wp) w') (by kernel_rfl) (by kernel_rfl) (Below.refl _ _).drew ?_
          repeat (first
            | (refine wpLex_pass (by rfl) passes_plain ?_; (conv => arg 9; simp only [put_lit, put_lit_none, List.set]))
            | (refine wpLex_plain (by rfl) ?_
               apply Exists.intro
               refine ⟨?_, ?_⟩
               · intro w' hb
                 have hsz := hb.size
                 try simp at hsz
                 have hcw := fun b o (h : b < wp.heap.size) => hb.cell (p := ⟨b, o, none⟩) h
                 have hfw := fun b o (h : b < wp.heap.size) => hb.frozen (p := ⟨b, o, none⟩) h
                 go_simp
                 first
                   | exact ⟨rfl, hb⟩
                   | exact rfl
               conv => arg 9; simp only [put_lit, put_lit_none, List.set]))
          refine wpLex_nil ?_
          intro wq hbq
          have hsq := hbq.size
          try simp at hsq
          have hcq := fun b o (h : b < wp.heap.size) => hbq.cell (p := ⟨b, o, none⟩) h
          have hfq := fun b o (h : b < wp.heap.size) => hbq.frozen (p := ⟨b, o, none⟩) h
          have HBq := Lib.hid hbq
          clear hbq
          go_wp2
          go_roundw
          case rel => exact ⟨k + 1, by omega, by go_num, by rw [HJ.out], by rw [HT.out]; rfl, (by repeat' (first | (with_reducible exact Below.refl _ _) | (with_reducible (refine Below.setCell ?_ ?_ _)) | (with_reducible (refine Below.alloc ?_ ?_ _)) | (with_reducible (refine Below.drew ?_)) | (with_reducible (refine below_via ?_ HBq.out ?_)) | (with_reducible (refine below_via ?_ HBp.out ?_)) | (with_reducible (refine below_via ?_ HB2.out ?_)) | omega | (simp; done) | (simp; omega)))⟩
          case measure => simp [intOf]; omega
        · obtain rfl : k = l.length := by omega
          clear hb hlt
          have HL := Lib.hid (List.take_length (l := l))
          go_wp2
          go_ret3
          exact ⟨by rw [HL.out]; rfl, HB2.out⟩

end Go.Proofs.Ytddbndmbcdeggaa
