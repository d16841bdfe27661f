/-
  Read and Get: some bytes of a memory. Conditions: the page's own, a place that may be.
-/
import Derived.Test.YtddbndmbcdeggaaCells
import Derived.Test.YtddbndmbcdeggaaMemB
import Derived.Test.YtddbndmbcdeggaaSlice
import Derived.Deep.Cut
namespace Go.Proofs.Ytddbndmbcdeggaa
open Go.RowKit


/-- Some bits of a word, as the machine has them. -/
def getOf (v at_ mask : Int) : Int := bits BinOp.and IntKind.u64 (v / 2 ^ at_.toNat) mask

set_option maxHeartbeats 1000000 in
theorem get_any (v at_ size : Int) (hv : 0 ≤ v ∧ v ≤ 18446744073709551615) (ha : 0 ≤ at_ ∧ at_ ≤ 63) (hs : size = 1 ∨ size = 2 ∨ size = 4 ∨ size = 8) (w : World) :
    Calls Try.prog 63 #[.int .u64 v, .int .i64 at_, .int .i64 (8 * size)] w fun e w' => e = .returned (.int .u64 (getOf v at_ (maskOf size))) ∧ Below w.heap.size w w' := by
  obtain ⟨ha0, ha1⟩ := ha
  obtain ⟨hv0, hv1⟩ := hv
  have HM := Lib.hid (fun W => mask_any size hs W)
  go_enter Try.func63, Try.ntmps63
  go_wp2
  refine wp_region_class (fun w' => w' = w.drew) (by kernel_rfl) (by kernel_rfl) rfl ?_
  refine wpLex_plain (by rfl) ?_
  apply Exists.intro
  refine ⟨?_, ?_⟩
  · intro w' hb
    subst hb
    go_simp
    exact rfl
  conv => arg 9; simp only [put_lit, put_lit_none, List.set]
  refine wpLex_plain (by rfl) ?_
  apply Exists.intro
  refine ⟨?_, ?_⟩
  · intro w' hb
    subst hb
    go_simp
    exact rfl
  conv => arg 9; simp only [put_lit, put_lit_none, List.set]
  refine wpLex_plain (by rfl) ?_
  apply Exists.intro
  refine ⟨?_, ?_⟩
  · intro w' hb
    subst hb
    go_simp
    exact rfl
  conv => arg 9; simp only [put_lit, put_lit_none, List.set]
  refine wpLex_plain (by rfl) ?_
  apply Exists.intro
  refine ⟨?_, ?_⟩
  · intro w' hb
    subst hb
    go_simp
    exact rfl
  conv => arg 9; simp only [put_lit, put_lit_none, List.set]
  refine wpLex_plain (by rfl) ?_
  apply Exists.intro
  refine ⟨?_, ?_⟩
  · intro w' hb
    subst hb
    go_simp
    refine (HM.out _).mono ?_
    rintro e w2 ⟨rfl, rfl⟩
    first | exact ⟨_, rfl, rfl, rfl⟩ | exact ⟨rfl, rfl⟩
  conv => arg 9; simp only [put_lit, put_lit_none, List.set]
  refine wpLex_plain (by rfl) ?_
  apply Exists.intro
  refine ⟨?_, ?_⟩
  · intro w' hb
    subst hb
    go_simp
    exact rfl
  conv => arg 9; simp only [put_lit, put_lit_none, List.set]
  refine wpLex_plain (by rfl) ?_
  apply Exists.intro
  refine ⟨?_, ?_⟩
  · intro w' hb
    subst hb
    go_simp
    exact rfl
  conv => arg 9; simp only [put_lit, put_lit_none, List.set]
  refine wpLex_nil ?_
  intro w' hw
  subst hw
  go_wp2
  go_ret
  exact ⟨rfl, (Below.refl _ _).drew⟩

/-- A contract that leaves the world, read as one that leaves what was there. -/
theorem quiet_same {P : Program} {f : FuncId} {args : Array Value} {w : World} {v : Value} (h : Calls P f args w fun e w' => e = .returned v ∧ w' = w) : Calls P f args w fun e w' => e = .returned v ∧ Below w.heap.size w w' :=
  h.mono fun _ _ ⟨he, hw⟩ => ⟨he, by rw [hw]; exact Below.refl _ _⟩

def memT : TypeId := 24

end Go.Proofs.Ytddbndmbcdeggaa
