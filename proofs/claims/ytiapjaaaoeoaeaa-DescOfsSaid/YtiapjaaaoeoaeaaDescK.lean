/-
  A descriptor's word is read as it: the plain law. Conditions: the descriptor may be.
-/
import Derived.Test.YtiapjaaaoeoaeaaDescJ
namespace Go.Proofs.Ytiapjaaaoeoaeaa
open Go.RowKit

/-- A field's bits, in their places. -/
def Fd.bitN (f : Fd) (j : Nat) : Bool := decide (f.at_.toNat ≤ j) && f.v.toNat.testBit (j - f.at_.toNat)

theorem fd_nat {f : Fd} (h : FdOk f) : f.v.toNat < 2 ^ f.n.toNat ∧ f.at_.toNat + f.n.toNat ≤ 64 := by
  obtain ⟨h0, h1, h2, h3, h4, h5⟩ := h
  refine ⟨?_, by omega⟩
  have e : f.n = ((f.n.toNat : Nat) : Int) := by omega
  rw [e, lowOf_nat] at h5
  have := Nat.two_pow_pos f.n.toNat
  omega
theorem bitN_out {f : Fd} (h : FdOk f) {j : Nat} (hj : j < f.at_.toNat ∨ f.at_.toNat + f.n.toNat ≤ j) : f.bitN j = false := by
  unfold Fd.bitN
  rcases hj with hj | hj
  · rw [show decide (f.at_.toNat ≤ j) = false by simp; omega]; rfl
  · have h1 := (fd_nat h).1
    rw [Nat.testBit_lt_two_pow (Nat.lt_of_lt_of_le h1 (Nat.pow_le_pow_right (by decide) (show f.n.toNat ≤ j - f.at_.toNat by omega)))]
    simp

/-- All fields' word, bit by bit. -/
theorem join_bits : ∀ (l : List Fd) (a : Nat), a < 18446744073709551616 → (∀ f ∈ l, FdOk f) → ∃ x : Nat, l.foldl joinStep (a : Int) = (x : Int) ∧ x < 18446744073709551616 ∧ ∀ j, x.testBit j = (a.testBit j || l.any fun f => f.bitN j)
  | [], a, ha, _ => ⟨a, rfl, ha, fun j => by simp⟩
  | f :: l, a, ha, hok => by
    have hf := hok f (List.mem_cons_self ..)
    obtain ⟨h1, h2⟩ := fd_nat hf
    obtain ⟨g0, g1, g2, g3, g4, g5⟩ := hf
    have hv : f.v.toNat * 2 ^ f.at_.toNat < 18446744073709551616 := by
      have h3 : f.v.toNat * 2 ^ f.at_.toNat < 2 ^ f.n.toNat * 2 ^ f.at_.toNat := Nat.mul_lt_mul_of_pos_right h1 (Nat.two_pow_pos _)
      rw [← Nat.pow_add] at h3
      exact Nat.lt_of_lt_of_le h3 (show _ ≤ 2 ^ 64 from Nat.pow_le_pow_right (by decide) (by omega))
    have e : joinStep (a : Int) f = ((a ||| f.v.toNat * 2 ^ f.at_.toNat : Nat) : Int) := by
      unfold joinStep
      have e1 : f.v * 2 ^ f.at_.toNat = ((f.v.toNat * 2 ^ f.at_.toNat : Nat) : Int) := by
        rw [Int.natCast_mul, Int.toNat_of_nonneg g4]; simp
      rw [e1, show IntKind.u64.wrap ((f.v.toNat * 2 ^ f.at_.toNat : Nat) : Int) = ((f.v.toNat * 2 ^ f.at_.toNat : Nat) : Int) by rw [IntKind.wrap_u64]; omega, u64_or_nat _ _ ha hv]
    have hor : a ||| f.v.toNat * 2 ^ f.at_.toNat < 18446744073709551616 := Nat.or_lt_two_pow (n := 64) ha hv
    obtain ⟨x, hx, hlt, hb⟩ := join_bits l _ hor (fun g hg => hok g (List.mem_cons_of_mem _ hg))
    refine ⟨x, by rw [List.foldl_cons, e]; exact hx, hlt, fun j => ?_⟩
    rw [hb j, Nat.testBit_or, Nat.testBit_mul_two_pow, List.any_cons, ← Bool.or_assoc]
    rfl

def goodAt (sp : List (Int × Int)) (a n : Int) : Bool :=
  decide (0 ≤ a) && (decide (1 ≤ n) && (sp.all (fun p => p == (a, n) || (decide (p.1 + p.2 ≤ a) || decide (a + n ≤ p.1))) && decide ((sp.filter (fun p => p.1 == a)).length ≤ 1)))

def valAt (l : List Fd) (a : Int) : Int := ((l.find? fun f => f.at_ == a).map Fd.v).getD 0

theorem one_at {l : List Fd} {a : Int} (h : ((spotsOf l).filter (fun p => p.1 == a)).length ≤ 1) : ∀ f ∈ l, ∀ g ∈ l, f.at_ = a → g.at_ = a → f = g := by
  have e : (spotsOf l).filter (fun p => p.1 == a) = (l.filter fun f => f.at_ == a).map fun f => (f.at_, f.n) := by
    unfold spotsOf
    rw [List.filter_map]
    rfl
  rw [e, List.length_map] at h
  intro f hf g hg h1 h2
  have m1 : f ∈ l.filter fun f => f.at_ == a := List.mem_filter.2 ⟨hf, by simpa using h1⟩
  have m2 : g ∈ l.filter fun f => f.at_ == a := List.mem_filter.2 ⟨hg, by simpa using h2⟩
  generalize l.filter (fun f => f.at_ == a) = L at *
  match L, h, m1, m2 with
  | [x], _, m1, m2 => rw [List.mem_singleton.1 m1, List.mem_singleton.1 m2]

theorem part_join (l : List Fd) (a n : Int) (hok : ∀ f ∈ l, FdOk f) (hg : goodAt (spotsOf l) a n = true) : partOf (joinW l) a n = valAt l a := by
  unfold goodAt at hg
  simp only [Bool.and_eq_true, decide_eq_true_eq, List.all_eq_true] at hg
  obtain ⟨ha, hn, hall, hone⟩ := hg
  have hone' := one_at hone
  have hsp : ∀ f ∈ l, (f.at_ = a ∧ f.n = n) ∨ f.at_ + f.n ≤ a ∨ a + n ≤ f.at_ := by
    intro f hf
    have := hall (f.at_, f.n) (List.mem_map.2 ⟨f, hf, rfl⟩)
    simpa using this
  obtain ⟨x, hx, hlt, hb⟩ := join_bits l 0 (by decide) hok
  have hxj : joinW l = (x : Int) := hx
  rw [hxj]
  obtain ⟨N, rfl⟩ := Int.eq_ofNat_of_zero_le (show 0 ≤ n by omega)
  obtain ⟨A, rfl⟩ := Int.eq_ofNat_of_zero_le ha
  have e1 : partOf (x : Int) (A : Int) (N : Int) = ((x / 2 ^ A % 2 ^ N : Nat) : Int) := by
    unfold partOf
    rw [Int.toNat_natCast, Int.toNat_natCast]
    simp
  rw [e1]
  unfold valAt
  cases hF : l.find? (fun f => f.at_ == (A : Int)) with
  | none =>
    have hno : ∀ f ∈ l, f.at_ ≠ (A : Int) := fun f hf => by simpa using List.find?_eq_none.1 hF f hf
    show ((x / 2 ^ A % 2 ^ N : Nat) : Int) = ((0 : Nat) : Int)
    congr 1
    apply Nat.eq_of_testBit_eq
    intro i
    rw [Nat.testBit_mod_two_pow, Nat.testBit_div_two_pow, Nat.zero_testBit]
    by_cases hi : i < N
    · rw [hb, Nat.zero_testBit, Bool.false_or]
      rw [show (l.any fun f => f.bitN (i + A)) = false by
        rw [List.any_eq_false]
        intro f hf
        have h1 := hno f hf
        have h2 := hsp f hf
        have h3 := hok f hf
        rw [bitN_out h3 (by obtain ⟨g0, g1, g2, g3, _⟩ := h3; omega)]
        decide]
      simp
    · simp [hi]
  | some f0 =>
    have hm := List.mem_of_find?_eq_some hF
    have hat : f0.at_ = (A : Int) := by simpa using List.find?_some hF
    have hk := hok f0 hm
    have hn0 : f0.n = (N : Int) := by
      rcases hsp f0 hm with h | h | h
      · exact h.2
      · have := hk.1; omega
      · omega
    show ((x / 2 ^ A % 2 ^ N : Nat) : Int) = f0.v
    have hv0 : 0 ≤ f0.v := hk.2.2.2.2.1
    have e2 : f0.v = ((f0.v.toNat : Nat) : Int) := by omega
    rw [e2]
    congr 1
    have hvlt := (fd_nat hk).1
    rw [hn0, Int.toNat_natCast] at hvlt
    apply Nat.eq_of_testBit_eq
    intro i
    rw [Nat.testBit_mod_two_pow, Nat.testBit_div_two_pow]
    by_cases hi : i < N
    · rw [hb, Nat.zero_testBit, Bool.false_or]
      have e3 : f0.bitN (i + A) = f0.v.toNat.testBit i := by
        unfold Fd.bitN
        rw [hat, Int.toNat_natCast, Nat.add_sub_cancel, show decide (A ≤ i + A) = true by simp]
        rfl
      rw [← e3, show decide (i < N) = true by simpa using hi, Bool.true_and]
      rw [Bool.eq_iff_iff, List.any_eq_true]
      constructor
      · rintro ⟨f, hf, hbit⟩
        by_cases hfa : f.at_ = (A : Int)
        · rw [← hone' f hf f0 hm hfa hat]; exact hbit
        · have h2 := hsp f hf
          have h3 := hok f hf
          rw [bitN_out h3 (by obtain ⟨g0, g1, g2, g3, _⟩ := h3; omega)] at hbit
          cases hbit
      · intro h
        exact ⟨f0, hm, h⟩
    · rw [show decide (i < N) = false by simpa using hi, Bool.false_and, Nat.testBit_lt_two_pow (Nat.lt_of_lt_of_le hvlt (Nat.pow_le_pow_right (by decide) (by omega)))]

end Go.Proofs.Ytiapjaaaoeoaeaa
