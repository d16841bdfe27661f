/-
  Bytes of a word: what some bytes read as, what a word is with some bytes put in their places. Plain arithmetic. Conditions: words of 64 bits.
-/
import Derived.Test.YtipepkmmjdlpoaaMemM
import Derived.Laws.BitsAllLaws
namespace Go.Proofs.Ytipepkmmjdlpoaa
open Go.RowKit

/-- Byte number j of a word. -/
def byteOf (x : Int) (j : Nat) : Int := x / 2 ^ (8 * j) % 256

theorem maskOf_pow (s : Nat) (h : s = 1 ∨ s = 2 ∨ s = 4 ∨ s = 8) : maskOf (s : Int) = ((2 ^ (8 * s) - 1 : Nat) : Int) := by
  rcases h with rfl | rfl | rfl | rfl <;> decide +kernel

theorem getOf_eq (x : Nat) (hx : x < 18446744073709551616) (j s : Nat) (hs : s = 1 ∨ s = 2 ∨ s = 4 ∨ s = 8) : getOf (x : Int) ((8 * j : Nat) : Int) (maskOf (s : Int)) = ((x / 2 ^ (8 * j) % 2 ^ (8 * s) : Nat) : Int) := by
  unfold getOf
  rw [maskOf_pow s hs, Int.toNat_natCast, show ((x : Int) / 2 ^ (8 * j)) = ((x / 2 ^ (8 * j) : Nat) : Int) by simp]
  have h1 : x / 2 ^ (8 * j) < 18446744073709551616 := Nat.lt_of_le_of_lt (Nat.div_le_self _ _) hx
  have h2 : 2 ^ (8 * s) - 1 < 18446744073709551616 := by rcases hs with rfl | rfl | rfl | rfl <;> decide
  rw [u64_and_nat _ _ h1 h2, Nat.and_two_pow_sub_one_eq_mod]

/-- One byte more of what reads. -/
theorem want_step (y k : Nat) (h : y / 2 ^ (8 * k) % 256 * 2 ^ (8 * k) < 18446744073709551616) (h2 : y % 2 ^ (8 * k) < 18446744073709551616) :
    bits .or .u64 ((y % 2 ^ (8 * k) : Nat) : Int) ((y / 2 ^ (8 * k) % 256 * 2 ^ (8 * k) : Nat) : Int) = ((y % 2 ^ (8 * (k + 1)) : Nat) : Int) := by
  rw [u64_or_nat _ _ h2 h]
  congr 1
  rw [Nat.or_comm, Nat.mul_comm, ← Nat.two_pow_add_eq_or_of_lt (Nat.mod_lt _ (Nat.two_pow_pos _)), Nat.add_comm, show 8 * (k + 1) = 8 * k + 8 by omega, Nat.pow_add, Nat.mod_mul]

theorem byte_word (x j : Nat) : byteOf (x : Int) j = ((x / 2 ^ (8 * j) % 256 : Nat) : Int) := by
  unfold byteOf; simp

theorem byte_bit (x j t : Nat) : (x / 2 ^ (8 * j) % 256).testBit t = (decide (t < 8) && x.testBit (8 * j + t)) := by
  rw [show (256 : Nat) = 2 ^ 8 by rfl, Nat.testBit_mod_two_pow, Nat.testBit_div_two_pow, Nat.add_comm]

theorem wrap_u64_nat (n : Nat) : IntKind.u64.wrap (n : Int) = ((n % 18446744073709551616 : Nat) : Int) := by rw [IntKind.wrap_u64]; omega

/-- A word with some bytes put, bit by bit. -/
theorem putOf_nat (x v : Nat) (hx : x < 18446744073709551616) (hv : v < 18446744073709551616) (j s : Nat) (hs : s = 1 ∨ s = 2 ∨ s = 4 ∨ s = 8) (hjs : j + s ≤ 8) :
    ∃ p : Nat, putOf (x : Int) ((8 * j : Nat) : Int) (maskOf (s : Int)) (v : Int) = (p : Int) ∧ p < 18446744073709551616 ∧ ∀ i, i < 64 → p.testBit i = if 8 * j ≤ i ∧ i < 8 * j + 8 * s then v.testBit (i - 8 * j) else x.testBit i := by
  have hm : 2 ^ (8 * s) - 1 < 18446744073709551616 := by rcases hs with rfl | rfl | rfl | rfl <;> decide
  unfold putOf
  rw [maskOf_pow s hs, Int.toNat_natCast]
  have e1 : (((2 ^ (8 * s) - 1 : Nat) : Int) * 2 ^ (8 * j)) = (((2 ^ (8 * s) - 1) * 2 ^ (8 * j) : Nat) : Int) := by simp
  rw [e1, wrap_u64_nat, u64_and_nat _ _ hv hm]
  have e2 : (((v &&& (2 ^ (8 * s) - 1) : Nat) : Int) * 2 ^ (8 * j)) = (((v &&& (2 ^ (8 * s) - 1)) * 2 ^ (8 * j) : Nat) : Int) := by simp
  rw [e2, wrap_u64_nat, u64_andNot_nat _ _ hx (Nat.mod_lt _ (by decide))]
  rw [u64_or_nat _ _ (Nat.lt_of_le_of_lt Nat.and_le_left hx) (Nat.mod_lt _ (by decide))]
  refine ⟨_, rfl, ?_, ?_⟩
  · exact Nat.or_lt_two_pow (n := 64) (Nat.lt_of_le_of_lt Nat.and_le_left hx) (Nat.mod_lt _ (by decide))
  · intro i hi
    rw [Nat.testBit_or, Nat.testBit_and, show (18446744073709551616 : Nat) = 2 ^ 64 by rfl]
    have e3 : 18446744073709551615 - (2 ^ (8 * s) - 1) * 2 ^ (8 * j) % 2 ^ 64 = 2 ^ 64 - ((2 ^ (8 * s) - 1) * 2 ^ (8 * j) % 2 ^ 64 + 1) := by
      have : (2 ^ (8 * s) - 1) * 2 ^ (8 * j) % 2 ^ 64 < 2 ^ 64 := Nat.mod_lt _ (by decide)
      omega
    rw [e3, Nat.testBit_two_pow_sub_succ (Nat.mod_lt _ (by decide)), Nat.testBit_mod_two_pow, Nat.testBit_mod_two_pow, Nat.testBit_mul_two_pow, Nat.testBit_mul_two_pow, Nat.testBit_and, Nat.testBit_two_pow_sub_one]
    by_cases h1 : 8 * j ≤ i
    · by_cases h2 : i < 8 * j + 8 * s
      · rw [if_pos ⟨h1, h2⟩]
        simp [hi, h1, show i - 8 * j < 8 * s by omega]
      · rw [if_neg (by omega)]
        simp [hi, h1, show ¬ i - 8 * j < 8 * s by omega]
    · rw [if_neg (by omega)]
      simp [hi, h1]

theorem putOf_byte (x v : Nat) (hx : x < 18446744073709551616) (hv : v < 18446744073709551616) (j s : Nat) (hs : s = 1 ∨ s = 2 ∨ s = 4 ∨ s = 8) (hjs : j + s ≤ 8) (i : Nat) (hi : i < 8) :
    byteOf (putOf (x : Int) ((8 * j : Nat) : Int) (maskOf (s : Int)) (v : Int)) i = if j ≤ i ∧ i < j + s then byteOf (v : Int) (i - j) else byteOf (x : Int) i := by
  obtain ⟨p, hp, _, hb⟩ := putOf_nat x v hx hv j s hs hjs
  rw [hp]
  by_cases h : j ≤ i ∧ i < j + s
  · rw [if_pos h, byte_word, byte_word]
    congr 1
    apply Nat.eq_of_testBit_eq
    intro t
    rw [byte_bit, byte_bit]
    by_cases ht : t < 8
    · rw [hb _ (by omega), if_pos (by omega), show 8 * i + t - 8 * j = 8 * (i - j) + t by omega]
    · simp [ht]
  · rw [if_neg h, byte_word, byte_word]
    congr 1
    apply Nat.eq_of_testBit_eq
    intro t
    rw [byte_bit, byte_bit]
    by_cases ht : t < 8
    · rw [hb _ (by omega), if_neg (by omega)]
    · simp [ht]

/-- All bytes of a row of words. -/
def byteAt (ws : List Int) (j : Nat) : Int := byteOf (ws.getD (j / 8) 0) (j % 8)

theorem nat_of_word {x : Int} (h : 0 ≤ x ∧ x ≤ 18446744073709551615) : ∃ n : Nat, x = (n : Int) ∧ n < 18446744073709551616 := ⟨x.toNat, by omega, by omega⟩

/-- A write, byte by byte. -/
theorem byteAt_write (ws : List Int) (hok : ∀ x ∈ ws, 0 ≤ x ∧ x ≤ 18446744073709551615) (v : Int) (hv : 0 ≤ v ∧ v ≤ 18446744073709551615) (a s : Nat) (hs : s = 1 ∨ s = 2 ∨ s = 4 ∨ s = 8) (ha : a % s = 0) (hl : a < 8 * ws.length) (x : Int) (hx : ws[a / 8]'(by omega) = x) (i : Nat) (_hi : i < 8 * ws.length) :
    byteAt (ws.set (a / 8) (putOf x ((a : Int) % 8 * 8) (maskOf (s : Int)) v)) i = if a ≤ i ∧ i < a + s then byteOf v (i - a) else byteAt ws i := by
  have hlt : a / 8 < ws.length := by omega
  obtain ⟨xn, rfl, hxn⟩ := nat_of_word (show 0 ≤ x ∧ x ≤ 18446744073709551615 by rw [← hx]; exact hok _ (List.getElem_mem _))
  obtain ⟨vn, rfl, hvn⟩ := nat_of_word hv
  have hjs : a % 8 + s ≤ 8 := by rcases hs with rfl | rfl | rfl | rfl <;> omega
  have he : ((a : Int) % 8 * 8) = ((8 * (a % 8) : Nat) : Int) := by omega
  unfold byteAt
  by_cases hw : i / 8 = a / 8
  · rw [hw, List.getD_eq_getElem?_getD, List.getElem?_set_self hlt, Option.getD_some, he, putOf_byte xn vn hxn hvn (a % 8) s hs hjs (i % 8) (Nat.mod_lt _ (by decide))]
    by_cases hb : a % 8 ≤ i % 8 ∧ i % 8 < a % 8 + s
    · rw [if_pos hb, if_pos (by omega), show i % 8 - a % 8 = i - a by omega]
    · rw [if_neg hb, if_neg (by omega), List.getD_eq_getElem?_getD, List.getElem?_eq_getElem hlt, Option.getD_some, hx]
  · rw [List.getD_eq_getElem?_getD, List.getElem?_set_ne (by omega), if_neg (by rcases hs with rfl | rfl | rfl | rfl <;> omega), List.getD_eq_getElem?_getD]

/-- A read, byte by byte. -/
theorem byteAt_read (ws : List Int) (hok : ∀ x ∈ ws, 0 ≤ x ∧ x ≤ 18446744073709551615) (a s : Nat) (hs : s = 1 ∨ s = 2 ∨ s = 4 ∨ s = 8) (ha : a % s = 0) (hl : a < 8 * ws.length) (x : Int) (hx : ws[a / 8]'(by omega) = x) :
    ∃ y : Nat, y < 18446744073709551616 ∧ getOf x ((a : Int) % 8 * 8) (maskOf (s : Int)) = ((y % 2 ^ (8 * s) : Nat) : Int) ∧ ∀ k, k < s → byteAt ws (a + k) = ((y / 2 ^ (8 * k) % 256 : Nat) : Int) := by
  have hlt : a / 8 < ws.length := by omega
  obtain ⟨xn, rfl, hxn⟩ := nat_of_word (show 0 ≤ x ∧ x ≤ 18446744073709551615 by rw [← hx]; exact hok _ (List.getElem_mem _))
  have hjs : a % 8 + s ≤ 8 := by rcases hs with rfl | rfl | rfl | rfl <;> omega
  have he : ((a : Int) % 8 * 8) = ((8 * (a % 8) : Nat) : Int) := by omega
  refine ⟨xn / 2 ^ (8 * (a % 8)), Nat.lt_of_le_of_lt (Nat.div_le_self _ _) hxn, by rw [he, getOf_eq xn hxn _ s hs], fun k hk => ?_⟩
  unfold byteAt
  rw [show (a + k) / 8 = a / 8 by omega, List.getD_eq_getElem?_getD, List.getElem?_eq_getElem hlt, Option.getD_some, hx, byte_word, show (a + k) % 8 = a % 8 + k by omega]
  rw [Nat.div_div_eq_div_mul, ← Nat.pow_add, show 8 * (a % 8 + k) = 8 * (a % 8) + 8 * k by omega]

end Go.Proofs.Ytipepkmmjdlpoaa
