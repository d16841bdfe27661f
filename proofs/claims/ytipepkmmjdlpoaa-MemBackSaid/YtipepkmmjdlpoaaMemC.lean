/-
  Read and Get: some bytes of a memory. Conditions: the page's own, a place that may be.
-/
import Derived.Test.YtipepkmmjdlpoaaMemB
import Derived.Test.YtipepkmmjdlpoaaSlice
import Derived.Deep.Cut
namespace Go.Proofs.Ytipepkmmjdlpoaa
open Go.RowKit

def wordCells (x : Int) : List Value := [.int .u64 x]

/-- Some bits of a word, as the machine has them. -/
def getOf (v at_ mask : Int) : Int := bits BinOp.and IntKind.u64 (v / 2 ^ at_.toNat) mask

set_option maxHeartbeats 1000000 in
theorem get_any (v at_ size : Int) (hv : 0 ≤ v ∧ v ≤ 18446744073709551615) (ha : 0 ≤ at_ ∧ at_ ≤ 63) (hs : size = 1 ∨ size = 2 ∨ size = 4 ∨ size = 8) (w : World) :
    Calls Try.prog 44 #[.int .u64 v, .int .i64 at_, .int .i64 (8 * size)] w fun e w' => e = .returned (.int .u64 (getOf v at_ (maskOf size))) ∧ Below w.heap.size w w' := by
  obtain ⟨ha0, ha1⟩ := ha
  obtain ⟨hv0, hv1⟩ := hv
  have HM := Lib.hid (fun W => mask_any size hs W)
  go_enter Try.func44, Try.ntmps44
  go_wp2
  refine wp_region_class (fun w' => w' = w.drew) (by kernel_rfl) (by kernel_rfl) rfl ?_
  refine wpLex_plain (by rfl) ?_
  apply Exists.intro
  refine ⟨?_, ?_⟩
  · intro w' hb
    subst hb
    go_simp
    exact rfl
  conv => arg 9; simp only [put_lit, put_lit_none, List.set]
  refine wpLex_plain (by rfl) ?_
  apply Exists.intro
  refine ⟨?_, ?_⟩
  · intro w' hb
    subst hb
    go_simp
    exact rfl
  conv => arg 9; simp only [put_lit, put_lit_none, List.set]
  refine wpLex_plain (by rfl) ?_
  apply Exists.intro
  refine ⟨?_, ?_⟩
  · intro w' hb
    subst hb
    go_simp
    exact rfl
  conv => arg 9; simp only [put_lit, put_lit_none, List.set]
  refine wpLex_plain (by rfl) ?_
  apply Exists.intro
  refine ⟨?_, ?_⟩
  · intro w' hb
    subst hb
    go_simp
    exact rfl
  conv => arg 9; simp only [put_lit, put_lit_none, List.set]
  refine wpLex_plain (by rfl) ?_
  apply Exists.intro
  refine ⟨?_, ?_⟩
  · intro w' hb
    subst hb
    go_simp
    refine (HM.out _).mono ?_
    rintro e w2 ⟨rfl, rfl⟩
    first | exact ⟨_, rfl, rfl, rfl⟩ | exact ⟨rfl, rfl⟩
  conv => arg 9; simp only [put_lit, put_lit_none, List.set]
  refine wpLex_plain (by rfl) ?_
  apply Exists.intro
  refine ⟨?_, ?_⟩
  · intro w' hb
    subst hb
    go_simp
    exact rfl
  conv => arg 9; simp only [put_lit, put_lit_none, List.set]
  refine wpLex_plain (by rfl) ?_
  apply Exists.intro
  refine ⟨?_, ?_⟩
  · intro w' hb
    subst hb
    go_simp
    exact rfl
  conv => arg 9; simp only [put_lit, put_lit_none, List.set]
  refine wpLex_nil ?_
  intro w' hw
  subst hw
  go_wp2
  go_ret
  exact ⟨rfl, (Below.refl _ _).drew⟩

/-- A contract that leaves the world, read as one that leaves what was there. -/
theorem quiet_same {P : Program} {f : FuncId} {args : Array Value} {w : World} {v : Value} (h : Calls P f args w fun e w' => e = .returned v ∧ w' = w) : Calls P f args w fun e w' => e = .returned v ∧ Below w.heap.size w w' :=
  h.mono fun _ _ ⟨he, hw⟩ => ⟨he, by rw [hw]; exact Below.refl _ _⟩

def memT : TypeId := 24

set_option maxHeartbeats 1000000 in
theorem read_yes (A : Option Addr) (c : Nat) (ws : List Int) (at_ size : Int) (w : World) (hn : ws.length ≤ 512) (hA : At w A 1 wordCells ws) (hws : ∀ x ∈ ws, 0 ≤ x ∧ x ≤ 18446744073709551615)
    (hg : memOk ws.length = true) (hs : size = 1 ∨ size = 2 ∨ size = 4 ∨ size = 8) (h0 : 0 ≤ at_) (h1 : at_ < 8 * ws.length) (h2 : at_ % size = 0) (i : Nat) (hi : i < ws.length) (hia : at_ / 8 = i) (x : Int) (hx : ws[i] = x) :
    Calls Try.prog 14 #[.agg #[.slice A ws.length c], .int .i64 at_, .int .i64 size] w fun e w' =>
      e = .returned (.tuple #[.int .u64 (getOf x (at_ % 8 * 8) (maskOf size)), .int .i64 0]) ∧ Below w.heap.size w w' := by
  have HP := Lib.hid (fun W => memPlaced_yes A ws.length c at_ size W (by omega) (by omega) hg hs 0 (by rw [if_neg (by omega), if_pos h2]))
  have HL := Lib.hid (fun W => low_any size hs W)
  obtain ⟨b, off, rfl, hbl, hc⟩ := hA (by omega)
  have HC := Lib.hid (show w.cell? ⟨b, off + i, none⟩ = some (.int .u64 x) by have := hc i hi 0 _ rfl; rw [hx] at this; simpa using this)
  have HIA := Lib.hid hia
  have HX := Lib.hid (hws x (by rw [← hx]; exact List.getElem_mem hi))
  clear hc hA hws hg hx hia h2
  go_enter Try.func14, Try.ntmps14
  go_wp2_with (go_at_call 35; refine (HP.out _).mono ?_; rintro e w1 ⟨rfl, hb1⟩; have hs1 := hb1.size; (try simp at hs1); have hc1_0 := fun o => (bcell hb1).1 (w.heap.size) o (by first | omega | (simp; done) | (simp; omega)); have hf1_0 := fun o => (bcell hb1).2.1 (w.heap.size) o (by first | omega | (simp; done) | (simp; omega)); have hz1_0 := (bcell hb1).2.2 (w.heap.size) (by first | omega | (simp; done) | (simp; omega)); have HB1 := Lib.hid hb1; clear hb1)
  have hia := HIA.out
  have hq : IntKind.i64.wrap (at_.tdiv 8) = (i : Int) := by
    rw [Int.tdiv_eq_ediv_of_nonneg h0, hia]; exact IntWalk.i64_in _ (by omega)
  have hr : IntKind.i64.wrap (at_.tmod 8 * 8) = at_ % 8 * 8 := by
    rw [Int.tmod_eq_emod_of_nonneg h0]; exact IntWalk.i64_in _ (by omega)
  have hr0 : 0 ≤ at_ % 8 * 8 := by omega
  have hr1 : at_ % 8 * 8 ≤ 63 := by omega
  clear hia
  have hx0 := HX.out.1
  have hx1 := HX.out.2
  have hil : (i : Int) < ws.length := by omega
  have hi0 : (0 : Int) ≤ (i : Int) := by omega
  have HB2 := Lib.hid (((Below.refl w.heap.size w).alloc (Nat.le_refl _) (.cells #[.slice (some ⟨b, off, none⟩) ws.length c] memT)).trans (HB1.out.mono (by simp)))
  have HBX := Lib.hid ((hc1_0 0).trans (cell_of_row _ _ 0 _ _ _ (heap_new w _)))
  have hsw : w.heap.size < w1.heap.size := by omega
  clear hc1_0 hf1_0 hz1_0
  have HFA := Lib.hid (fun w' (hb : Below w1.heap.size w1 w') => And.intro ((hb.cell (p := ⟨w.heap.size, 0, none⟩) hsw).trans HBX.out) (((hb.cell (p := ⟨b, off + i, none⟩) (show b < w1.heap.size by omega)).trans (HB2.out.cell hbl)).trans HC.out))
  refine wp_region_class (fun w' => Below w1.heap.size w1 w') (by kernel_rfl) (by kernel_rfl) (Below.refl _ _).drew ?_
  refine wpLex_plain (by rfl) ?_
  apply Exists.intro
  refine ⟨?_, ?_⟩
  · intro w' hb
    have hh := HFA.out w' hb; have d0 := hh.1; have d1 := hh.2; clear hh; simp at d0
    go_simp
    first | exact rfl | exact ⟨rfl, hb⟩
  conv => arg 9; simp only [put_lit, put_lit_none, List.set]
  refine wpLex_plain (by rfl) ?_
  apply Exists.intro
  refine ⟨?_, ?_⟩
  · intro w' hb
    have hh := HFA.out w' hb; have d0 := hh.1; have d1 := hh.2; clear hh; simp at d0
    go_simp
    first | exact rfl | exact ⟨rfl, hb⟩
  conv => arg 9; simp only [put_lit, put_lit_none, List.set]
  refine wpLex_plain (by rfl) ?_
  apply Exists.intro
  refine ⟨?_, ?_⟩
  · intro w' hb
    have hh := HFA.out w' hb; have d0 := hh.1; have d1 := hh.2; clear hh; simp at d0
    go_simp
    first | exact rfl | exact ⟨rfl, hb⟩
  conv => arg 9; simp only [put_lit, put_lit_none, List.set]
  refine wpLex_plain (by rfl) ?_
  apply Exists.intro
  refine ⟨?_, ?_⟩
  · intro w' hb
    have hh := HFA.out w' hb; have d0 := hh.1; have d1 := hh.2; clear hh; simp at d0
    go_simp
    first | exact rfl | exact ⟨rfl, hb⟩
  conv => arg 9; simp only [put_lit, put_lit_none, List.set]
  refine wpLex_plain (by rfl) ?_
  apply Exists.intro
  refine ⟨?_, ?_⟩
  · intro w' hb
    have hh := HFA.out w' hb; have d0 := hh.1; have d1 := hh.2; clear hh; simp at d0
    go_simp
    first | exact rfl | exact ⟨rfl, hb⟩
  conv => arg 9; simp only [put_lit, put_lit_none, List.set]
  refine wpLex_plain (by rfl) ?_
  apply Exists.intro
  refine ⟨?_, ?_⟩
  · intro w' hb
    have hh := HFA.out w' hb; have d0 := hh.1; have d1 := hh.2; clear hh; simp at d0
    go_simp
    first | exact rfl | exact ⟨rfl, hb⟩
  conv => arg 9; simp only [put_lit, put_lit_none, List.set]
  refine wpLex_plain (by rfl) ?_
  apply Exists.intro
  refine ⟨?_, ?_⟩
  · intro w' hb
    have hh := HFA.out w' hb; have d0 := hh.1; have d1 := hh.2; clear hh; simp at d0
    go_simp
    first | exact rfl | exact ⟨rfl, hb⟩
  conv => arg 9; simp only [put_lit, put_lit_none, List.set]
  refine wpLex_plain (by rfl) ?_
  apply Exists.intro
  refine ⟨?_, ?_⟩
  · intro w' hb
    have hh := HFA.out w' hb; have d0 := hh.1; have d1 := hh.2; clear hh; simp at d0
    go_simp
    first | exact rfl | exact ⟨rfl, hb⟩
  conv => arg 9; simp only [put_lit, put_lit_none, List.set]
  refine wpLex_plain (by rfl) ?_
  apply Exists.intro
  refine ⟨?_, ?_⟩
  · intro w' hb
    have hh := HFA.out w' hb; have d0 := hh.1; have d1 := hh.2; clear hh; simp at d0
    go_simp
    first | exact rfl | exact ⟨rfl, hb⟩
  conv => arg 9; simp only [put_lit, put_lit_none, List.set]
  refine wpLex_plain (by rfl) ?_
  apply Exists.intro
  refine ⟨?_, ?_⟩
  · intro w' hb
    have hh := HFA.out w' hb; have d0 := hh.1; have d1 := hh.2; clear hh; simp at d0
    go_simp
    first | exact rfl | exact ⟨rfl, hb⟩
  conv => arg 9; simp only [put_lit, put_lit_none, List.set]
  refine wpLex_plain (by rfl) ?_
  apply Exists.intro
  refine ⟨?_, ?_⟩
  · intro w' hb
    have hh := HFA.out w' hb; have d0 := hh.1; have d1 := hh.2; clear hh; simp at d0
    go_simp
    first | exact rfl | exact ⟨rfl, hb⟩
  conv => arg 9; simp only [put_lit, put_lit_none, List.set]
  refine wpLex_plain (by rfl) ?_
  apply Exists.intro
  refine ⟨?_, ?_⟩
  · intro w' hb
    have hsz := hb.size
    go_simp
    refine (quiet_same (HL.out _)).mono ?_
    rintro e w2 ⟨rfl, hb2⟩
    first | exact ⟨_, rfl, rfl, hb.trans (hb2.mono hsz)⟩ | exact ⟨rfl, hb.trans (hb2.mono hsz)⟩
  conv => arg 9; simp only [put_lit, put_lit_none, List.set]
  refine wpLex_plain (by rfl) ?_
  apply Exists.intro
  refine ⟨?_, ?_⟩
  · intro w' hb
    skip
    go_simp
    first | exact rfl | exact ⟨rfl, hb⟩
  conv => arg 9; simp only [put_lit, put_lit_none, List.set]
  refine wpLex_plain (by rfl) ?_
  apply Exists.intro
  refine ⟨?_, ?_⟩
  · intro w' hb
    skip
    go_simp
    first | exact rfl | exact ⟨rfl, hb⟩
  conv => arg 9; simp only [put_lit, put_lit_none, List.set]
  refine wpLex_plain (by rfl) ?_
  apply Exists.intro
  refine ⟨?_, ?_⟩
  · intro w' hb
    skip
    go_simp
    first | exact rfl | exact ⟨rfl, hb⟩
  conv => arg 9; simp only [put_lit, put_lit_none, List.set]
  refine wpLex_nil ?_
  intro w' hb'
  go_wp2
  go_ret2
  exact ⟨rfl, below_call HB2.out hb' HB2.out.size⟩

end Go.Proofs.Ytipepkmmjdlpoaa
