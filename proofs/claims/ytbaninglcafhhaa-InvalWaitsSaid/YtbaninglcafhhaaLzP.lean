/-
  A TLB's rows scribbled over: what was there before them stays, one block more, and whatever lives through stores. Conditions: they may be stored to.
-/
import Derived.Test.YtbaninglcafhhaaTlA
namespace Go.Proofs.Ytbaninglcafhhaa
open Go.RowKit

/-- While it goes on. -/
def LzPAt (P : World → Prop) (z : Nat) (base : Nat) (w : World) (A : Option Addr) (n c : Nat) (B : Option Addr) (m d : Nat) (wr : World) : Prop :=
  Below base w wr ∧ Room wr base 14 A n ∧ Room wr base 4 B m ∧ wr.heap[w.heap.size]? = some (.cells #[.slice A n c, .slice B m d] tlbT (0, 0)) ∧ w.heap.size < wr.heap.size ∧ wr.heap[z]? = w.heap[z]? ∧ P wr

set_option maxRecDepth 100000 in
set_option maxHeartbeats 8000000 in
theorem scrawl_prop (P : World → Prop) (hP : ∀ W p u, P W → P (W.setCell p u)) (hPa : ∀ W o, P W → P (W.alloc o)) (z : Nat) (A : Option Addr) (n c : Nat) (B : Option Addr) (m d base : Nat) (w : World) (hn : n ≤ 140737488355328) (hm : m ≤ 140737488355328) (hb : base ≤ w.heap.size) (h1 : Room w base 14 A n) (h2 : Room w base 4 B m) (hz : z < w.heap.size) (hzA : ∀ p : Addr, A = some p → p.block ≠ z) (hzB : ∀ p : Addr, B = some p → p.block ≠ z) (hp : P w) :
    Calls Try.prog 41 #[.agg #[.slice A n c, .slice B m d]] w fun e w' => e = .returned (.tuple #[]) ∧ Below base w w' ∧ w'.heap[z]? = w.heap[z]? ∧ P w' := by
  have HNE := Lib.hid (show (∀ b off, 0 < n → A = some ⟨b, off, none⟩ → b ≠ w.heap.size) ∧ (∀ b off, 0 < m → B = some ⟨b, off, none⟩ → b ≠ w.heap.size) from by
    constructor
    · intro b off h0 h
      obtain ⟨b', off', cs, t, e, _, h3, _⟩ := h1 h0
      rw [h] at e
      injection e with e
      injection e with e1 _
      have := heap_lt h3
      omega
    · intro b off h0 h
      obtain ⟨b', off', cs, t, e, _, h3, _⟩ := h2 h0
      rw [h] at e
      injection e with e
      injection e with e1 _
      have := heap_lt h3
      omega)
  have HS := Lib.hid (show LzPAt P z base w A n c B m d (w.alloc (.cells #[.slice A n c, .slice B m d] tlbT)) from ⟨(Below.refl _ _).alloc hb _, h1.alloc _, h2.alloc _, heap_new _ _, by simp, heap_old _ _ hz, hPa _ _ hp⟩)
  have HZA := Lib.hid hzA
  have HZB := Lib.hid hzB
  have HPS := Lib.hid hP
  clear h1 h2 hzA hzB hz hP hPa hp
  go_enter Try.func41, Try.ntmps41
  go_wp2_with fail
  go_loopw [2] (fun i wr => ∃ k : Nat, k ≤ n ∧ i = .int .i64 k ∧ LzPAt P z base w A n c B m d wr) (fun i _ => n - (intOf i).toNat)
  case atStart => exact ⟨0, Nat.zero_le _, rfl, HS.out⟩
  case round =>
    obtain ⟨k, hk, rfl, hba, hra, hrb, hx, hsz, hzk, hpk⟩ := hrel
    have HZK := Lib.hid hzk
    have HPK := Lib.hid hpk
    have HBA := Lib.hid hba
    have HRA := Lib.hid hra
    have HRB := Lib.hid hrb
    have HX := Lib.hid hx
    clear hba hra hrb hx hzk hpk
    have x0 := fun j => cell_of_row _ _ j _ _ _ HX.out
    have xf := fun j => frozen_of_row _ _ j _ _ HX.out
    by_cases hlt : k < n
    · have hki : (k : Int) < n := by omega
      have hk0 : (0 : Int) ≤ (k : Int) := by omega
      obtain ⟨b, off, cs, t, e0, hb1, hb2, hb3⟩ := HRA.out (by omega)
      subst e0
      have hcl : ∀ j, j < 14 → ∃ u, wr.cell? ⟨b, off + k * 14 + j, none⟩ = some u := fun j hj => by
        have hlt2 : off + k * 14 + j < cs.size := by
          have : (k + 1) * 14 ≤ n * 14 := Nat.mul_le_mul_right _ (by omega)
          omega
        exact ⟨cs[off + k * 14 + j], by rw [cell_of_row _ _ _ _ _ _ hb2, Array.getElem?_eq_getElem hlt2]⟩
      obtain ⟨v0, e0⟩ := hcl 0 (by omega)
      obtain ⟨v1, e1⟩ := hcl 1 (by omega)
      obtain ⟨v2, e2⟩ := hcl 2 (by omega)
      obtain ⟨v3, e3⟩ := hcl 3 (by omega)
      obtain ⟨v4, e4⟩ := hcl 4 (by omega)
      obtain ⟨v5, e5⟩ := hcl 5 (by omega)
      obtain ⟨v6, e6⟩ := hcl 6 (by omega)
      obtain ⟨v7, e7⟩ := hcl 7 (by omega)
      obtain ⟨v8, e8⟩ := hcl 8 (by omega)
      obtain ⟨v9, e9⟩ := hcl 9 (by omega)
      obtain ⟨v10, e10⟩ := hcl 10 (by omega)
      obtain ⟨v11, e11⟩ := hcl 11 (by omega)
      obtain ⟨v12, e12⟩ := hcl 12 (by omega)
      obtain ⟨v13, e13⟩ := hcl 13 (by omega)
      simp only [Nat.add_zero] at e0
      clear hcl
      have hfz := fun j => frozen_of_row wr b j _ _ hb2
      have hbx : b ≠ w.heap.size := HNE.out.1 b off (by omega) rfl
      have hbx2 : w.heap.size ≠ b := fun h => hbx h.symm
      have hbz : z ≠ b := fun h => HZA.out _ rfl h.symm
      clear hb2
      go_wp2
      go_roundw
      case rel => exact ⟨k + 1, by omega, by go_num, (by repeat' (first | (with_reducible exact Below.refl _ _) | (with_reducible (refine Below.setCell ?_ ?_ _)) | (with_reducible (refine Below.alloc ?_ ?_ _)) | (with_reducible (refine Below.drew ?_)) | (with_reducible (refine below_via ?_ HBA.out ?_)) | omega | (simp; done) | (simp; omega))), (by repeat (first | (with_reducible exact HRA.out) | (with_reducible refine Room.set_ ?_ _ _))), (by repeat (first | (with_reducible exact HRB.out) | (with_reducible refine Room.set_ ?_ _ _))), (by repeat (first | (with_reducible exact HX.out) | (with_reducible refine heap_far_is hbx2 ?_))), (by simp only [size_set]; exact hsz), (by repeat (first | (with_reducible exact HZK.out) | (with_reducible refine heap_far_is hbz ?_))), (by repeat (first | (with_reducible exact HPK.out) | (with_reducible refine HPS.out _ _ _ ?_)))⟩
      case measure => simp [intOf]; omega
    · have hki : ¬ (k : Int) < n := by omega
      go_wp2_with fail
      have HS2 := Lib.hid (show LzPAt P z base w A n c B m d wr from ⟨HBA.out, HRA.out, HRB.out, HX.out, hsz, HZK.out, HPK.out⟩)
      clear x0 xf HBA HRA HRB HX hsz HZK HPK
      go_loopw [3] (fun i wr => ∃ k : Nat, k ≤ m ∧ i = .int .i64 k ∧ LzPAt P z base w A n c B m d wr) (fun i _ => m - (intOf i).toNat)
      case atStart => exact ⟨0, Nat.zero_le _, rfl, HS2.out⟩
      case round =>
        obtain ⟨k, hk, rfl, hba, hra, hrb, hx, hsz, hzk, hpk⟩ := hrel
        have HZK := Lib.hid hzk
        have HPK := Lib.hid hpk
        have HBA := Lib.hid hba
        have HRA := Lib.hid hra
        have HRB := Lib.hid hrb
        have HX := Lib.hid hx
        clear hba hra hrb hx hzk hpk
        have x0 := fun j => cell_of_row _ _ j _ _ _ HX.out
        have xf := fun j => frozen_of_row _ _ j _ _ HX.out
        by_cases hlt : k < m
        · have hki : (k : Int) < m := by omega
          have hk0 : (0 : Int) ≤ (k : Int) := by omega
          obtain ⟨b, off, cs, t, e0, hb1, hb2, hb3⟩ := HRB.out (by omega)
          subst e0
          have hcl : ∀ j, j < 4 → ∃ u, wr.cell? ⟨b, off + k * 4 + j, none⟩ = some u := fun j hj => by
            have hlt2 : off + k * 4 + j < cs.size := by
              have : (k + 1) * 4 ≤ m * 4 := Nat.mul_le_mul_right _ (by omega)
              omega
            exact ⟨cs[off + k * 4 + j], by rw [cell_of_row _ _ _ _ _ _ hb2, Array.getElem?_eq_getElem hlt2]⟩
          obtain ⟨v0, e0⟩ := hcl 0 (by omega)
          obtain ⟨v1, e1⟩ := hcl 1 (by omega)
          obtain ⟨v2, e2⟩ := hcl 2 (by omega)
          obtain ⟨v3, e3⟩ := hcl 3 (by omega)
          simp only [Nat.add_zero] at e0
          clear hcl
          have hfz := fun j => frozen_of_row wr b j _ _ hb2
          have hbx : b ≠ w.heap.size := HNE.out.2 b off (by omega) rfl
          have hbx2 : w.heap.size ≠ b := fun h => hbx h.symm
          have hbz : z ≠ b := fun h => HZB.out _ rfl h.symm
          clear hb2
          go_wp2
          go_roundw
          case rel => exact ⟨k + 1, by omega, by go_num, (by repeat' (first | (with_reducible exact Below.refl _ _) | (with_reducible (refine Below.setCell ?_ ?_ _)) | (with_reducible (refine Below.alloc ?_ ?_ _)) | (with_reducible (refine Below.drew ?_)) | (with_reducible (refine below_via ?_ HBA.out ?_)) | omega | (simp; done) | (simp; omega))), (by repeat (first | (with_reducible exact HRA.out) | (with_reducible refine Room.set_ ?_ _ _))), (by repeat (first | (with_reducible exact HRB.out) | (with_reducible refine Room.set_ ?_ _ _))), (by repeat (first | (with_reducible exact HX.out) | (with_reducible refine heap_far_is hbx2 ?_))), (by simp only [size_set]; exact hsz), (by repeat (first | (with_reducible exact HZK.out) | (with_reducible refine heap_far_is hbz ?_))), (by repeat (first | (with_reducible exact HPK.out) | (with_reducible refine HPS.out _ _ _ ?_)))⟩
          case measure => simp [intOf]; omega
        · have hki : ¬ (k : Int) < m := by omega
          go_wp2
          go_end0
          exact ⟨rfl, HBA.out, HZK.out, HPK.out⟩

end Go.Proofs.Ytbaninglcafhhaa
