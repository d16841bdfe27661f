/-
  The write over of an answer's words; a number within bounds. Conditions: the row is the call's own.
-/
import Derived.Test.YtipepkmmjdlpoaaMemN
namespace Go.Proofs.Ytipepkmmjdlpoaa
open Go.RowKit

set_option maxHeartbeats 1000000 in
theorem Words_any (A : Option Addr) (c base : Nat) (xs : List Int) (w : World) (hn : xs.length ≤ 1000000) (hb : base ≤ w.heap.size) (hA : Own w base wordT 1 wordCells xs A c) :
    Calls Try.prog 31 #[.slice A xs.length c] w fun e w' => e = .returned (.tuple #[]) ∧ Below base w w' := by
  obtain ⟨i0, hi0, hz0, hz1, hz2⟩ := info_parts word_info
  have HA := Lib.hid hA
  clear hA
  go_enter Try.func31, Try.ntmps31
  go_wp2
  go_loopw [2] (fun i wr => ∃ (k : Nat) (ys : List Int), k ≤ xs.length ∧ i = .int .i64 k ∧ ys.length = xs.length ∧ Own wr base wordT 1 wordCells ys A c ∧ Below base w wr) (fun i _ => xs.length - (intOf i).toNat)
  case atStart => exact ⟨0, xs, Nat.zero_le _, rfl, rfl, HA.out, Below.refl _ _⟩
  case round =>
    obtain ⟨k, ys, hk, rfl, hlen, hown, hbw⟩ := hrel
    have HLEN := Lib.hid hlen
    have HOWN := Lib.hid hown
    have HBW := Lib.hid hbw
    have hsw := hbw.size
    clear hlen hown hbw
    by_cases hlt : k < xs.length
    · have hlt2 : k < ys.length := by have := HLEN.out; omega
      obtain ⟨g, rfl, hg1, hg2, hg3⟩ := HOWN.out.spot (by omega)
      have hgf := hg3 k
      have HC := Lib.hid (HOWN.out.cell word_len hlt2 (j := 0) rfl)
      obtain ⟨y, hy⟩ : ∃ y, ys[k] = y := ⟨_, rfl⟩
      have hc : wr.cell? ⟨g, k, none⟩ = some (.int .u64 y) := by have := HC.out; rw [hy] at this; simpa using this
      have hki : (k : Int) < xs.length := by omega
      clear hy hg3
      go_wp2
      go_roundw
      case rel => exact ⟨k + 1, _, by omega, by go_num, by rw [List.length_set]; exact HLEN.out, HOWN.out.set1 word_len (i := k) _ _ rfl, HBW.out.setCell hg1 _⟩
      case measure => simp [intOf]; omega
    · go_wp2_with (at_builtin; refine wpList_push rfl (.tmp 17) (.tmp 18) _ rfl base wordT i0 _ 1 8 Try.underlying22 hi0 hz0 hz1 hz2 rfl (by omega) _ xs.length _ rfl (by have := HOWN.out; unfold Own at this; rw [HLEN.out] at this; exact this) #[.int .u64 5] rfl (by simp [Value.oneCell']) rfl (by simp only [maxLen]; omega) (by omega) (by omega) ?_; intro v5 w5 hown5 hb5; have HB5 := Lib.hid hb5; clear hown5 hb5)
      go_end0
      exact ⟨rfl, (by repeat' (first | (with_reducible exact Below.refl _ _) | (with_reducible (refine Below.setCell ?_ ?_ _)) | (with_reducible (refine Below.alloc ?_ ?_ _)) | (with_reducible (refine Below.drew ?_)) | (with_reducible (refine below_via ?_ HB5.out ?_)) | (with_reducible (refine below_via ?_ HBW.out ?_)) | omega | (simp; done) | (simp; omega)))⟩

def withinOf (i n : Int) : Int := IntKind.u64.wrap i % n

theorem u64_low (i : Int) : 0 ≤ IntKind.u64.wrap i := by
  simp only [IntKind.wrap]
  exact Int.emod_nonneg _ (by decide)
theorem within_lt (i n : Int) (h0 : 0 < n) : 0 ≤ withinOf i n ∧ withinOf i n < n := ⟨Int.emod_nonneg _ (by omega), Int.emod_lt_of_pos _ h0⟩
theorem within_eq (i n : Int) (h0 : 0 < n) (h1 : n ≤ 1000000) : wrap64 ((IntKind.u64.wrap i).tmod n) = withinOf i n := by
  rw [Int.tmod_eq_emod_of_nonneg (u64_low i)]
  have := within_lt i n h0
  unfold withinOf at this ⊢
  exact IntWalk.wrap64_in _ (by omega)
theorem within_any (i n : Int) (w : World) (h0 : 0 < n) (h1 : n ≤ 1000000) (_hi : -9223372036854775808 ≤ i ∧ i ≤ 9223372036854775807) :
    Calls Try.prog 12 #[.int .i64 i, .int .i64 n] w fun e w' => e = .returned (.int .i64 (withinOf i n)) ∧ w' = w := by
  go_enter Try.func12, Try.ntmps12
  go_wp2
  go_ret
  refine ⟨?_, rfl⟩
  show Ending.returned (.int .i64 (wrap64 ((IntKind.u64.wrap i).tmod n))) = _
  rw [within_eq i n h0 h1]

end Go.Proofs.Ytipepkmmjdlpoaa
