/-
  Fields of words: the masks, whether a field may be, some bits of a word. Conditions: the field lies within 64 bits.
-/
import Derived.Test.YtddbndmbcdeggaaRows
import Derived.Test.YtddbndmbcdeggaaNew
import Derived.Test.YtddbndmbcdeggaaSlice
import Derived.Laws.BitsAllLaws
import Derived.Deep.Cut
namespace Go.Proofs.Ytddbndmbcdeggaa
open Go.RowKit

/-- The n lowest bits, all ones. -/
def lowOf (n : Int) : Int := 2 ^ n.toNat - 1
theorem lowOf_nat (n : Nat) : lowOf (n : Int) = ((2 ^ n - 1 : Nat) : Int) := by
  unfold lowOf
  have := Nat.two_pow_pos n
  rw [Int.toNat_natCast, Int.natCast_sub this]
  simp
theorem shr_low : ∀ n : Nat, n ≤ 64 → 18446744073709551615 / 2 ^ (64 - n) = 2 ^ n - 1 := by decide +kernel
theorem low_shift (n : Int) (h0 : 1 ≤ n) (h1 : n ≤ 64) : (18446744073709551615 : Int) / 2 ^ (64 - n).toNat = lowOf n := by
  obtain ⟨k, rfl⟩ := Int.eq_ofNat_of_zero_le (show 0 ≤ n by omega)
  rw [lowOf_nat, ← shr_low k (by omega), show (64 - (k : Int)).toNat = 64 - k by omega]
  simp
theorem low_lt : ∀ n : Nat, n ≤ 64 → 2 ^ n - 1 < 18446744073709551616 := by decide +kernel
theorem lowOf_word (n : Int) (h0 : 1 ≤ n) (h1 : n ≤ 64) : 0 ≤ lowOf n ∧ lowOf n ≤ 18446744073709551615 := by
  obtain ⟨k, rfl⟩ := Int.eq_ofNat_of_zero_le (show 0 ≤ n by omega)
  rw [lowOf_nat]
  have := low_lt k (by omega)
  omega

/-- No bit of v lies above the n lowest. -/
theorem fits_low (n v : Int) (h0 : 1 ≤ n) (h1 : n ≤ 64) (h2 : 0 ≤ v) (h3 : v ≤ lowOf n) : bits .andNot .u64 v (lowOf n) = 0 := by
  obtain ⟨k, rfl⟩ := Int.eq_ofNat_of_zero_le (show 0 ≤ n by omega)
  obtain ⟨x, rfl⟩ := Int.eq_ofNat_of_zero_le h2
  rw [lowOf_nat] at *
  have hl := low_lt k (by omega)
  have hp := Nat.two_pow_pos k
  rw [u64_andNot_nat _ _ (by omega) hl]
  have hx : x < 2 ^ k := by omega
  rw [show (18446744073709551615 : Nat) - (2 ^ k - 1) = 2 ^ 64 - (2 ^ k - 1 + 1) by omega]
  suffices h : x &&& (2 ^ 64 - (2 ^ k - 1 + 1)) = 0 by rw [h]; rfl
  apply Nat.eq_of_testBit_eq
  intro i
  rw [Nat.testBit_and, Nat.testBit_two_pow_sub_succ (by omega), Nat.testBit_two_pow_sub_one, Nat.zero_testBit]
  by_cases hi : i < k
  · simp [hi]
  · have : x.testBit i = false := Nat.testBit_lt_two_pow (Nat.lt_of_lt_of_le hx (Nat.pow_le_pow_right (by decide) (by omega)))
    simp [this]

structure Fd where
  at_ : Int
  n : Int
  v : Int
def Fd.cells (f : Fd) : List Value := [.int .i64 f.at_, .int .i64 f.n, .int .u64 f.v]
theorem fd_len (f : Fd) : f.cells.length = 3 := rfl
/-- A field that may be. -/
def FdOk (f : Fd) : Prop := 1 ≤ f.n ∧ f.n ≤ 64 ∧ 0 ≤ f.at_ ∧ f.at_ ≤ 64 - f.n ∧ 0 ≤ f.v ∧ f.v ≤ lowOf f.n
def maskAt (at_ n : Int) : Int := IntKind.u64.wrap (lowOf n * 2 ^ at_.toNat)

set_option maxRecDepth 100000 in
set_option maxHeartbeats 1000000 in
theorem flow_any (at_ n v : Int) (h0 : 1 ≤ n) (h1 : n ≤ 64) (w : World) :
    Calls Try.prog 93 #[.agg #[.int .i64 at_, .int .i64 n, .int .u64 v]] w fun e w' => e = .returned (.int .u64 (lowOf n)) ∧ Below w.heap.size w w' := by
  have HL := Lib.hid (low_shift n h0 h1)
  go_enter Try.func93, Try.ntmps93
  go_wp2
  go_ret
  exact ⟨by rw [HL.out]; rfl, (Below.refl _ _).alloc (Nat.le_refl _) _⟩

set_option maxRecDepth 100000 in
set_option maxHeartbeats 1000000 in
theorem fmask_any (at_ n v : Int) (h0 : 1 ≤ n) (h1 : n ≤ 64) (h2 : 0 ≤ at_) (h3 : at_ ≤ 64 - n) (w : World) :
    Calls Try.prog 95 #[.agg #[.int .i64 at_, .int .i64 n, .int .u64 v]] w fun e w' => e = .returned (.int .u64 (maskAt at_ n)) ∧ Below w.heap.size w w' := by
  have HL := Lib.hid (fun W => flow_any at_ n v h0 h1 W)
  go_enter Try.func95, Try.ntmps95
  go_wp2_with fail
  refine wp_region_class (fun w' => Below (w.heap.size + 1) (w.alloc (.cells #[.int .i64 at_, .int .i64 n, .int .u64 v] 136)) w') (by kernel_rfl) (by kernel_rfl) (Below.refl _ _).drew ?_
  repeat (first
    | (refine wpLex_pass (by rfl) passes_plain ?_; (conv => arg 9; simp only [put_lit, put_lit_none, List.set]))
    | (refine wpLex_plain (by rfl) ?_
       apply Exists.intro
       refine ⟨?_, ?_⟩
       · intro w' hb
         have hsz := hb.size
         try simp at hsz
         have hcw := fun b o (h : b < w.heap.size + 1) => hb.cell (p := ⟨b, o, none⟩) h
         have hfw := fun b o (h : b < w.heap.size + 1) => hb.frozen (p := ⟨b, o, none⟩) h
         go_simp
         first
           | exact ⟨rfl, hb⟩
           | exact rfl
           | ((with_reducible refine Calls.mono (HL.out _) ?_); rintro e w2 ⟨rfl, hb2⟩; exact ⟨_, rfl, rfl, hb.trans (hb2.mono hsz)⟩)
       conv => arg 9; simp only [put_lit, put_lit_none, List.set]))
  refine wpLex_nil ?_
  intro wr hbr
  have hsr := hbr.size
  try simp at hsr
  have hcr := fun b o (h : b < w.heap.size + 1) => hbr.cell (p := ⟨b, o, none⟩) h
  have hfr := fun b o (h : b < w.heap.size + 1) => hbr.frozen (p := ⟨b, o, none⟩) h
  have HBr := Lib.hid hbr
  clear hbr
  go_wp2
  go_ret
  exact ⟨rfl, (by repeat' (first | (with_reducible exact Below.refl _ _) | (with_reducible (refine Below.setCell ?_ ?_ _)) | (with_reducible (refine Below.alloc ?_ ?_ _)) | (with_reducible (refine Below.drew ?_)) | (with_reducible (refine below_via ?_ HBr.out ?_)) | omega | (simp; done) | (simp; omega)))⟩

set_option maxRecDepth 100000 in
set_option maxHeartbeats 1000000 in
theorem fmay_any (at_ n v : Int) (h : FdOk ⟨at_, n, v⟩) (w : World) :
    Calls Try.prog 92 #[.agg #[.int .i64 at_, .int .i64 n, .int .u64 v]] w fun e w' => e = .returned (.bool true) ∧ Below w.heap.size w w' := by
  obtain ⟨h0, h1, h2, h3, h4, h5⟩ := h
  dsimp only at *
  have HL := Lib.hid (fun W => flow_any at_ n v h0 h1 W)
  have q0 : decide ((1 : Int) ≤ n) = true := by simpa using h0
  have q1 : decide (n ≤ 64) = true := by simpa using h1
  have q2 : decide ((0 : Int) ≤ at_) = true := by simpa using h2
  have q3 : decide (at_ ≤ 64 - n) = true := by simpa using h3
  have q5 : IntKind.i64.wrap (64 - n) = 64 - n := IntWalk.i64_in _ (by omega)
  have q4 := fits_low n v h0 h1 h4 h5
  go_enter Try.func92, Try.ntmps92
  go_wp2_with fail
  refine wp_region_class (fun w' => Below (w.heap.size + 1) (w.alloc (.cells #[.int .i64 at_, .int .i64 n, .int .u64 v] 136)) w') (by kernel_rfl) (by kernel_rfl) (Below.refl _ _).drew ?_
  repeat (first
    | (refine wpLex_pass (by rfl) passes_plain ?_; (conv => arg 9; simp only [put_lit, put_lit_none, List.set]))
    | (refine wpLex_plain (by rfl) ?_
       apply Exists.intro
       refine ⟨?_, ?_⟩
       · intro w' hb
         have hsz := hb.size
         try simp at hsz
         have hcw := fun b o (h : b < w.heap.size + 1) => hb.cell (p := ⟨b, o, none⟩) h
         have hfw := fun b o (h : b < w.heap.size + 1) => hb.frozen (p := ⟨b, o, none⟩) h
         go_simp
         first
           | exact ⟨rfl, hb⟩
           | exact rfl
           | ((with_reducible refine Calls.mono (HL.out _) ?_); rintro e w2 ⟨rfl, hb2⟩; exact ⟨_, rfl, rfl, hb.trans (hb2.mono hsz)⟩)
       conv => arg 9; simp only [put_lit, put_lit_none, List.set]))
  refine wpLex_nil ?_
  intro wr hbr
  have hsr := hbr.size
  try simp at hsr
  have hcr := fun b o (h : b < w.heap.size + 1) => hbr.cell (p := ⟨b, o, none⟩) h
  have hfr := fun b o (h : b < w.heap.size + 1) => hbr.frozen (p := ⟨b, o, none⟩) h
  have HBr := Lib.hid hbr
  clear hbr
  go_wp2
  go_ret
  exact ⟨rfl, (by repeat' (first | (with_reducible exact Below.refl _ _) | (with_reducible (refine Below.setCell ?_ ?_ _)) | (with_reducible (refine Below.alloc ?_ ?_ _)) | (with_reducible (refine Below.drew ?_)) | (with_reducible (refine below_via ?_ HBr.out ?_)) | omega | (simp; done) | (simp; omega)))⟩

end Go.Proofs.Ytddbndmbcdeggaa
