/-
  What may be asked of both stages; where an intermediate page is: the plain words. Conditions: the lengths fit.
-/
import Derived.Test.YtddbndmbcdeggaaWkL
import Derived.Test.YtddbndmbcdeggaaPerm
namespace Go.Proofs.Ytddbndmbcdeggaa
open Go.RowKit

structure Rt where
  on : Bool
  frame : Int
  tag : Int
def Rt.cells (r : Rt) : List Value := [.bool r.on, .int .i64 r.frame, .int .i64 r.tag]
def rootT : TypeId := 55

set_option maxHeartbeats 1000000 in
theorem paged_any (L : Option Addr) (cl : Nat) (l : List Int) (w : World) (hl : l.length ≤ 1000000) (hL : At w L 1 intCells l) :
    Calls Try.prog 70 #[.slice L l.length cl] w fun e w' => e = .returned (.bool (l.all fun x => numOk x 4095)) ∧ Below w.heap.size w w' := by
  have HL := Lib.hid hL
  clear hL
  go_enter Try.func70, Try.ntmps70
  go_wp2
  go_loopw [7] (fun i wr => ∃ k : Nat, k ≤ l.length ∧ i = .int .i64 k ∧ (l.take k).all (fun x => numOk x 4095) = true ∧ Below w.heap.size w wr) (fun i _ => l.length - (intOf i).toNat)
  case atStart => exact ⟨0, Nat.zero_le _, rfl, rfl, Below.refl _ _⟩
  case round =>
    obtain ⟨k, hk, rfl, ht, hbw⟩ := hrel
    have HT := Lib.hid ht
    have HBW := Lib.hid hbw
    clear ht hbw
    by_cases hlt : k < l.length
    · obtain ⟨b, off, rfl, hbl, hc⟩ := at_cell HL.out HBW.out hlt rfl
      obtain ⟨x, hx⟩ : ∃ x, l[k] = x := ⟨_, rfl⟩
      rw [hx] at hc
      have HX := Lib.hid hx
      clear hx
      have hki : (k : Int) < l.length := by omega
      have HNO := Lib.hid (show numOk x 4095 = false → (l.all fun x => numOk x 4095) = false from fun h => by
        rw [List.all_eq_false]
        exact ⟨x, by rw [← HX.out]; exact List.getElem_mem hlt, by rw [h]; decide⟩)
      by_cases h0 : x < 0
      · have HNX := Lib.hid (HNO.out (by unfold numOk; simp; omega))
        have q0 : decide (x < 0) = true := by simpa using h0
        go_wp2
        go_ret
        exact ⟨by rw [HNX.out]; rfl, HBW.out⟩
      · have q0 : decide (x < 0) = false := by simpa using h0
        by_cases h1 : 4095 < x
        · have HNX := Lib.hid (HNO.out (by unfold numOk; simp; omega))
          have q1 : decide (4095 < x) = true := by simpa using h1
          go_wp2
          go_ret
          exact ⟨by rw [HNX.out]; rfl, HBW.out⟩
        · have q1 : decide (4095 < x) = false := by simpa using h1
          have HYX := Lib.hid (show (l.take (k + 1)).all (fun x => numOk x 4095) = true by
            rw [List.take_succ_eq_append_getElem hlt, List.all_append, HT.out, HX.out]
            unfold numOk
            simp
            omega)
          go_wp2
          go_roundw
          case rel => exact ⟨k + 1, by omega, by go_num, HYX.out, HBW.out⟩
          case measure => simp [intOf]; omega
    · have HTM := Lib.hid (show (l.all fun x => numOk x 4095) = true by rw [← HT.out, List.take_of_length_le (by omega)])
      go_wp2
      go_ret
      exact ⟨by rw [HTM.out]; rfl, HBW.out⟩

def askedB (n : Nat) (acc : Int) (l : List Int) : Bool := accOk acc && (memOk n && l.all fun x => numOk x 4095)
set_option maxHeartbeats 2000000 in
theorem asked_any (A : Option Addr) (n c : Nat) (acc : Int) (L : Option Addr) (cl : Nat) (l : List Int) (w : World) (hn : n ≤ 1000000) (hl : l.length ≤ 1000000) (hL : At w L 1 intCells l) :
    Calls Try.prog 45 #[.agg #[.slice A n c], .int .i64 acc, .slice L l.length cl] w fun e w' => e = .returned (.bool (askedB n acc l)) ∧ Below w.heap.size w w' := by
  have HM := Lib.hid (fun W => pmay_any false false false false false 0 acc W)
  have HP := Lib.hid (fun W (hb : Below w.heap.size w W) => paged_any L cl l W hl (hL.below hb))
  obtain ⟨ga, hga⟩ : ∃ b, accOk acc = b := ⟨_, rfl⟩
  obtain ⟨gm, hgm⟩ : ∃ b, memOk n = b := ⟨_, rfl⟩
  have HC := Lib.hid (fun W => memCheck_any A n c W (by omega) gm hgm)
  unfold askedB
  rw [hga, hgm]
  rw [hga] at HM
  clear hga hgm hL
  generalize (l.all fun x => numOk x 4095) = gl at *
  generalize mayOf false false false acc = mm at *
  cases ga
  · go_enter Try.func45, Try.ntmps45
    go_wp2_with fail
    refine Calls.mono (HM.out _) ?_
    rintro e w1 ⟨rfl, hb1⟩
    have hs1 := hb1.size
    try simp at hs1
    have hc1_0 := fun o => (bcell hb1).1 (w.heap.size) o (by first | omega | (simp; done) | (simp; omega))
    have hf1_0 := fun o => (bcell hb1).2.1 (w.heap.size) o (by first | omega | (simp; done) | (simp; omega))
    have hz1_0 := (bcell hb1).2.2 (w.heap.size) (by first | omega | (simp; done) | (simp; omega))
    have HB1 := Lib.hid hb1
    clear hb1
    go_wp2
    go_ret
    exact ⟨rfl, (by repeat' (first | (with_reducible exact Below.refl _ _) | (with_reducible (refine Below.setCell ?_ ?_ _)) | (with_reducible (refine Below.alloc ?_ ?_ _)) | (with_reducible (refine Below.drew ?_)) | (with_reducible (refine below_via ?_ HB1.out ?_)) | omega | (simp; done) | (simp; omega)))⟩
  · cases gm
    · go_enter Try.func45, Try.ntmps45
      go_wp2_with fail
      refine Calls.mono (HM.out _) ?_
      rintro e w1 ⟨rfl, hb1⟩
      have hs1 := hb1.size
      try simp at hs1
      have hc1_0 := fun o => (bcell hb1).1 (w.heap.size) o (by first | omega | (simp; done) | (simp; omega))
      have hf1_0 := fun o => (bcell hb1).2.1 (w.heap.size) o (by first | omega | (simp; done) | (simp; omega))
      have hz1_0 := (bcell hb1).2.2 (w.heap.size) (by first | omega | (simp; done) | (simp; omega))
      have HB1 := Lib.hid hb1
      clear hb1
      go_wp2_with fail
      refine Calls.mono (HC.out _) ?_
      rintro e w2 ⟨rfl, hb2⟩
      have hs2 := hb2.size
      try simp at hs2
      have HB2 := Lib.hid hb2
      clear hb2
      go_wp2
      go_ret
      exact ⟨rfl, (by repeat' (first | (with_reducible exact Below.refl _ _) | (with_reducible (refine Below.setCell ?_ ?_ _)) | (with_reducible (refine Below.alloc ?_ ?_ _)) | (with_reducible (refine Below.drew ?_)) | (with_reducible (refine below_via ?_ HB2.out ?_)) | (with_reducible (refine below_via ?_ HB1.out ?_)) | omega | (simp; done) | (simp; omega)))⟩
    · go_enter Try.func45, Try.ntmps45
      go_wp2_with fail
      refine Calls.mono (HM.out _) ?_
      rintro e w1 ⟨rfl, hb1⟩
      have hs1 := hb1.size
      try simp at hs1
      have hc1_0 := fun o => (bcell hb1).1 (w.heap.size) o (by first | omega | (simp; done) | (simp; omega))
      have hf1_0 := fun o => (bcell hb1).2.1 (w.heap.size) o (by first | omega | (simp; done) | (simp; omega))
      have hz1_0 := (bcell hb1).2.2 (w.heap.size) (by first | omega | (simp; done) | (simp; omega))
      have HB1 := Lib.hid hb1
      clear hb1
      go_wp2_with fail
      refine Calls.mono (HC.out _) ?_
      rintro e w2 ⟨rfl, hb2⟩
      have hs2 := hb2.size
      try simp at hs2
      have HB2 := Lib.hid hb2
      clear hb2
      go_wp2_with fail
      refine Calls.mono (HP.out _ (by repeat' (first | (with_reducible exact Below.refl _ _) | (with_reducible (refine Below.setCell ?_ ?_ _)) | (with_reducible (refine Below.alloc ?_ ?_ _)) | (with_reducible (refine Below.drew ?_)) | (with_reducible (refine below_via ?_ HB2.out ?_)) | (with_reducible (refine below_via ?_ HB1.out ?_)) | omega | (simp; done) | (simp; omega)))) ?_
      rintro e w3 ⟨rfl, hb3⟩
      have hs3 := hb3.size
      try simp at hs3
      have HB3 := Lib.hid hb3
      clear hb3
      go_wp2
      go_ret
      exact ⟨rfl, (by repeat' (first | (with_reducible exact Below.refl _ _) | (with_reducible (refine Below.setCell ?_ ?_ _)) | (with_reducible (refine Below.alloc ?_ ?_ _)) | (with_reducible (refine Below.drew ?_)) | (with_reducible (refine below_via ?_ HB3.out ?_)) | (with_reducible (refine below_via ?_ HB2.out ?_)) | (with_reducible (refine below_via ?_ HB1.out ?_)) | omega | (simp; done) | (simp; omega)))⟩

/-- Which fault an access meets. -/
def flagFt (h : Ht) (acc stage level page : Int) : Ft := if h.af && mayOf h.r h.w h.x acc then noFt else ⟨faultOf h.af (mayOf h.r h.w h.x acc), stage, level, false, page⟩
theorem flagFt_cells (h : Ht) (acc stage level page : Int) : flagOf h.af (mayOf h.r h.w h.x acc) stage level page = (flagFt h acc stage level page).cells := by
  unfold flagOf flagFt
  cases h.af && mayOf h.r h.w h.x acc <;> rfl
def withMid (h : Ht) (mid : Int) : Ht := { h with mid := mid }
def offMid (n : Nat) (mid : Int) : Ht × Ft × List Int := if (n : Int) / 8 ≤ mid then (noHt, ⟨1, 2, 0, false, mid⟩, []) else (⟨mid, mid, true, true, true, true, false, 0, 0⟩, noFt, [])
def onFt (r : Ht × Ft × List Int) (mid acc : Int) : Ft := if r.2.1.kind = 0 then flagFt r.1 acc 2 r.1.level mid else r.2.1
def onMid (r : Ht × Ft × List Int) (mid acc : Int) : Ht × Ft × List Int := (if (onFt r mid acc).kind = 0 then withMid r.1 mid else noHt, onFt r mid acc, r.2.2)
/-- Where an intermediate page is, of what may be. -/
def midOf (ws : List Int) (two : Rt) (mid acc : Int) : Ht × Ft × List Int := if two.on then onMid (walkOf ws 2 two.frame mid) mid acc else offMid ws.length mid
def midOk (n : Nat) (two : Rt) (mid acc : Int) : Bool := askedB n acc [two.frame, mid]
def midRes (ws : List Int) (two : Rt) (mid acc : Int) : Ht × Ft × List Int := if midOk ws.length two mid acc then midOf ws two mid acc else (noHt, noFt, [])
def midEr (n : Nat) (two : Rt) (mid acc : Int) : Int := if midOk n two mid acc then 0 else 1

end Go.Proofs.Ytddbndmbcdeggaa
