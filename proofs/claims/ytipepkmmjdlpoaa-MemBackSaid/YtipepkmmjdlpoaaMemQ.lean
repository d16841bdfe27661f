/-
  The statement's own example: a byte of a number. Conditions: none.
-/
import Derived.Test.YtipepkmmjdlpoaaMemP
namespace Go.Proofs.Ytipepkmmjdlpoaa
open Go.RowKit

theorem wake_put : putOf 0 (2 % 8 * 8) (maskOf 2) 258 = 16908288 := by decide +kernel
theorem wake_get : getOf 16908288 (2 % 8 * 8) (maskOf 1) = 2 := by decide +kernel

set_option maxHeartbeats 1000000 in
theorem wakes_any (w : World) : Calls Try.prog 15 #[] w fun e w' => e = .returned (.bool true) ∧ Below w.heap.size w w' := by
  have HN := Lib.hid (fun W => New_yes 1 W (by decide) (by decide))
  have HW := Lib.hid (fun (A : Option Addr) (c : Nat) (W : World) (hA : At W A 1 wordCells (zeros 8)) => write_yes A c (zeros 8) 2 2 258 W (by decide) hA (fun x hx => by have := List.eq_of_mem_replicate hx; omega) (by decide) (by decide) (by decide) (by decide) (by decide) (by decide) 0 (by decide) (by decide) 0 rfl)
  have HR := Lib.hid (fun (A : Option Addr) (c : Nat) (W : World) (hA : At W A 1 wordCells ((zeros 8).set 0 16908288)) => read_yes A c ((zeros 8).set 0 16908288) 2 1 W (by decide) hA (by decide) (by decide) (by decide) (by decide) (by decide) (by decide) 0 (by decide) (by decide) 16908288 rfl)
  rw [wake_put] at HW
  rw [wake_get] at HR
  go_enter Try.func15, Try.ntmps15
  go_wp2_with fail
  refine Calls.mono (HN.out _) ?_
  rintro e w1 ⟨A1, c1, rfl, hown1, hb1⟩
  have hs1 := hb1.size
  try simp at hs1
  have HB1 := Lib.hid hb1
  clear hb1
  have Hhown1 := Lib.hid hown1
  clear hown1
  go_wp2_with fail
  refine Calls.mono (HW.out A1 c1 _ ((Hhown1.out.at_ word_len).below (by repeat' (first | (with_reducible exact Below.refl _ _) | (with_reducible (refine Below.setCell ?_ ?_ _)) | (with_reducible (refine Below.alloc ?_ ?_ _)) | (with_reducible (refine Below.drew ?_)) | omega | (simp; done) | (simp; omega))))) ?_
  rintro e w2 ⟨A2, c2, rfl, hown2, hb2⟩
  have hs2 := hb2.size
  try simp at hs2
  have hc2_0 := fun o => (bcell hb2).1 (w1.heap.size) o (by first | omega | (simp; done) | (simp; omega))
  have hf2_0 := fun o => (bcell hb2).2.1 (w1.heap.size) o (by first | omega | (simp; done) | (simp; omega))
  have hz2_0 := (bcell hb2).2.2 (w1.heap.size) (by first | omega | (simp; done) | (simp; omega))
  have HB2 := Lib.hid hb2
  clear hb2
  have Hhown2 := Lib.hid hown2
  clear hown2
  go_wp2_with fail
  refine Calls.mono (HR.out A2 c2 _ ((Hhown2.out.set_far (by simp; omega) _).at_ word_len)) ?_
  rintro e w3 ⟨rfl, hb3⟩
  have hs3 := hb3.size
  try simp at hs3
  have HB3 := Lib.hid hb3
  clear hb3
  have HNU := Lib.hid (fun (n : Int) W => mnum_any n W)
  go_wp2_with (go_at_call 11; refine (HNU.out _ _).mono ?_; rintro e w' ⟨rfl, rfl⟩)
  go_ret
  exact ⟨rfl, (by repeat' (first | (with_reducible exact Below.refl _ _) | (with_reducible (refine Below.setCell ?_ ?_ _)) | (with_reducible (refine Below.alloc ?_ ?_ _)) | (with_reducible (refine Below.drew ?_)) | (with_reducible (refine below_via ?_ HB3.out ?_)) | (with_reducible (refine below_via ?_ HB2.out ?_)) | (with_reducible (refine below_via ?_ HB1.out ?_)) | omega | (simp; done) | (simp; omega)))⟩

end Go.Proofs.Ytipepkmmjdlpoaa
