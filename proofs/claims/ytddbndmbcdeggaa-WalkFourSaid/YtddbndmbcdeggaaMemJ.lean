/-
  New, Frames, whether frames may be asked for, the words of a frame. Conditions: the lengths fit.
-/
import Derived.Test.YtddbndmbcdeggaaMemI
namespace Go.Proofs.Ytddbndmbcdeggaa
open Go.RowKit

def zeros (n : Nat) : List Int := List.replicate n 0

theorem memFramesF_any (A : Option Addr) (n c : Nat) (w : World) (hn : n ≤ 9223372036854775807) (g : Bool) (hg : memOk n = g) :
    Calls Try.prog 46 #[.agg #[.slice A n c]] w fun e w' => e = .returned (.tuple #[.int .i64 (if g then (n : Int) / 8 else 0), .int .i64 (if g then 0 else 1)]) ∧ Below w.heap.size w w' := by
  have HC := Lib.hid (fun W => memCheck_any A n c W hn g hg)
  have HF := Lib.hid (fun W => memFrames_any A n c W hn)
  clear hg
  cases g
  · go_enter Try.func46, Try.ntmps46
    go_wp2_with fail
    refine Calls.mono (HC.out _) ?_
    rintro e w1 ⟨rfl, hb1⟩
    have hs1 := hb1.size
    try simp at hs1
    have hc1_0 := fun o => (bcell hb1).1 (w.heap.size) o (by first | omega | (simp; done) | (simp; omega))
    have hf1_0 := fun o => (bcell hb1).2.1 (w.heap.size) o (by first | omega | (simp; done) | (simp; omega))
    have hz1_0 := (bcell hb1).2.2 (w.heap.size) (by first | omega | (simp; done) | (simp; omega))
    have HB1 := Lib.hid hb1
    clear hb1
    go_wp2
    go_ret2
    exact ⟨rfl, (by repeat' (first | (with_reducible exact Below.refl _ _) | (with_reducible (refine Below.setCell ?_ ?_ _)) | (with_reducible (refine Below.alloc ?_ ?_ _)) | (with_reducible (refine Below.drew ?_)) | (with_reducible (refine below_via ?_ HB1.out ?_)) | omega | (simp; done) | (simp; omega)))⟩
  · go_enter Try.func46, Try.ntmps46
    go_wp2_with fail
    refine Calls.mono (HC.out _) ?_
    rintro e w1 ⟨rfl, hb1⟩
    have hs1 := hb1.size
    try simp at hs1
    have hc1_0 := fun o => (bcell hb1).1 (w.heap.size) o (by first | omega | (simp; done) | (simp; omega))
    have hf1_0 := fun o => (bcell hb1).2.1 (w.heap.size) o (by first | omega | (simp; done) | (simp; omega))
    have hz1_0 := (bcell hb1).2.2 (w.heap.size) (by first | omega | (simp; done) | (simp; omega))
    have HB1 := Lib.hid hb1
    clear hb1
    go_wp2_with fail
    refine Calls.mono (HF.out _) ?_
    rintro e w2 ⟨rfl, hb2⟩
    have hs2 := hb2.size
    try simp at hs2
    have HB2 := Lib.hid hb2
    clear hb2
    go_wp2
    go_ret2
    exact ⟨rfl, (by repeat' (first | (with_reducible exact Below.refl _ _) | (with_reducible (refine Below.setCell ?_ ?_ _)) | (with_reducible (refine Below.alloc ?_ ?_ _)) | (with_reducible (refine Below.drew ?_)) | (with_reducible (refine below_via ?_ HB2.out ?_)) | (with_reducible (refine below_via ?_ HB1.out ?_)) | omega | (simp; done) | (simp; omega)))⟩

def askOf (n : Nat) (l : List Int) : Int := if memOk n then (if thereB ((n : Int) / 8) l then 0 else 2) else 1

theorem ask_any (A L : Option Addr) (c cl n : Nat) (l : List Int) (w : World) (hn : n ≤ 140737488355328) (hl : l.length ≤ 140737488355328) (hL : At w L 1 intCells l) :
    Calls Try.prog 57 #[.agg #[.slice A n c], .slice L l.length cl] w fun e w' => e = .returned (.int .i64 (askOf n l)) ∧ Below w.heap.size w w' := by
  have HM := Lib.hid (fun W => memMay_any A n c W (by omega))
  have HH := Lib.hid (fun W (hb : Below w.heap.size w W) => memHas_any A L c cl n l W hn hl (hL.below hb))
  clear hL
  cases hg : memOk n
  · have HA := Lib.hid (show askOf n l = 1 by rw [askOf, hg]; rfl)
    rw [hg] at HM
    clear hg
    go_enter Try.func57, Try.ntmps57
    go_wp2_with fail
    refine Calls.mono (HM.out _) ?_
    rintro e w1 ⟨rfl, hb1⟩
    have hs1 := hb1.size
    try simp at hs1
    have HB1 := Lib.hid hb1
    clear hb1
    go_wp2
    go_ret
    exact ⟨by rw [HA.out]; rfl, (by repeat' (first | (with_reducible exact Below.refl _ _) | (with_reducible (refine Below.setCell ?_ ?_ _)) | (with_reducible (refine Below.alloc ?_ ?_ _)) | (with_reducible (refine Below.drew ?_)) | (with_reducible (refine below_via ?_ HB1.out ?_)) | omega | (simp; done) | (simp; omega)))⟩
  · rw [hg] at HM
    cases ht : thereB ((n : Int) / 8) l
    · have HA := Lib.hid (show askOf n l = 2 by rw [askOf, hg, ht]; rfl)
      rw [ht] at HH
      clear hg ht
      go_enter Try.func57, Try.ntmps57
      go_wp2_with fail
      refine Calls.mono (HM.out _) ?_
      rintro e w1 ⟨rfl, hb1⟩
      have hs1 := hb1.size
      try simp at hs1
      have hc1_0 := fun o => (bcell hb1).1 (w.heap.size) o (by first | omega | (simp; done) | (simp; omega))
      have hf1_0 := fun o => (bcell hb1).2.1 (w.heap.size) o (by first | omega | (simp; done) | (simp; omega))
      have hz1_0 := (bcell hb1).2.2 (w.heap.size) (by first | omega | (simp; done) | (simp; omega))
      have HB1 := Lib.hid hb1
      clear hb1
      go_wp2_with fail
      refine Calls.mono (HH.out _ (by repeat' (first | (with_reducible exact Below.refl _ _) | (with_reducible (refine Below.setCell ?_ ?_ _)) | (with_reducible (refine Below.alloc ?_ ?_ _)) | (with_reducible (refine Below.drew ?_)) | (with_reducible (refine below_via ?_ HB1.out ?_)) | omega | (simp; done) | (simp; omega)))) ?_
      rintro e w2 ⟨rfl, hb2⟩
      have hs2 := hb2.size
      try simp at hs2
      have HB2 := Lib.hid hb2
      clear hb2
      go_wp2
      go_ret
      exact ⟨by rw [HA.out]; rfl, (by repeat' (first | (with_reducible exact Below.refl _ _) | (with_reducible (refine Below.setCell ?_ ?_ _)) | (with_reducible (refine Below.alloc ?_ ?_ _)) | (with_reducible (refine Below.drew ?_)) | (with_reducible (refine below_via ?_ HB2.out ?_)) | (with_reducible (refine below_via ?_ HB1.out ?_)) | omega | (simp; done) | (simp; omega)))⟩
    · have HA := Lib.hid (show askOf n l = 0 by rw [askOf, hg, ht]; rfl)
      rw [ht] at HH
      clear hg ht
      go_enter Try.func57, Try.ntmps57
      go_wp2_with fail
      refine Calls.mono (HM.out _) ?_
      rintro e w1 ⟨rfl, hb1⟩
      have hs1 := hb1.size
      try simp at hs1
      have hc1_0 := fun o => (bcell hb1).1 (w.heap.size) o (by first | omega | (simp; done) | (simp; omega))
      have hf1_0 := fun o => (bcell hb1).2.1 (w.heap.size) o (by first | omega | (simp; done) | (simp; omega))
      have hz1_0 := (bcell hb1).2.2 (w.heap.size) (by first | omega | (simp; done) | (simp; omega))
      have HB1 := Lib.hid hb1
      clear hb1
      go_wp2_with fail
      refine Calls.mono (HH.out _ (by repeat' (first | (with_reducible exact Below.refl _ _) | (with_reducible (refine Below.setCell ?_ ?_ _)) | (with_reducible (refine Below.alloc ?_ ?_ _)) | (with_reducible (refine Below.drew ?_)) | (with_reducible (refine below_via ?_ HB1.out ?_)) | omega | (simp; done) | (simp; omega)))) ?_
      rintro e w2 ⟨rfl, hb2⟩
      have hs2 := hb2.size
      try simp at hs2
      have HB2 := Lib.hid hb2
      clear hb2
      go_wp2
      go_ret
      exact ⟨by rw [HA.out]; rfl, (by repeat' (first | (with_reducible exact Below.refl _ _) | (with_reducible (refine Below.setCell ?_ ?_ _)) | (with_reducible (refine Below.alloc ?_ ?_ _)) | (with_reducible (refine Below.drew ?_)) | (with_reducible (refine below_via ?_ HB2.out ?_)) | (with_reducible (refine below_via ?_ HB1.out ?_)) | omega | (simp; done) | (simp; omega)))⟩

theorem memOf_any (b off : Nat) (c n : Nat) (f : Nat) (w : World) (hn : n ≤ 512) (hc : n ≤ c) (hf : 8 * f + 8 ≤ n) :
    Calls Try.prog 59 #[.agg #[.slice (some ⟨b, off, none⟩) n c], .int .i64 f] w fun e w' => e = .returned (.slice (some ⟨b, off + f * 8, none⟩) 8 (c - f * 8)) ∧ Below w.heap.size w w' := by
  have h1 : ((f : Int) + 1) * 8 ≤ c := by omega
  have h2 : (0 : Int) ≤ (f : Int) * 8 := by omega
  have h3 : (f : Int) * 8 ≤ ((f : Int) + 1) * 8 := by omega
  go_enter Try.func59, Try.ntmps59
  go_wp2
  go_ret
  exact ⟨by show Ending.returned (.slice _ ((f + 1) * 8 - f * 8) _) = _; rw [show (f + 1) * 8 - f * 8 = 8 by omega], (by repeat' (first | (with_reducible exact Below.refl _ _) | (with_reducible (refine Below.setCell ?_ ?_ _)) | (with_reducible (refine Below.alloc ?_ ?_ _)) | (with_reducible (refine Below.drew ?_)) | omega | (simp; done) | (simp; omega)))⟩

/-- The words of a frame. -/
def frameOf (ws : List Int) (f : Nat) : List Int := (ws.drop (f * 8)).take 8
theorem frame_len (ws : List Int) (f : Nat) (h : 8 * f + 8 ≤ ws.length) : (frameOf ws f).length = 8 := by simp [frameOf]; omega
theorem At.cut {α : Type} {w : World} {b off size : Nat} {g : α → List Value} {l : List α} (h : At w (some ⟨b, off, none⟩) size g l) (k n : Nat) : At w (some ⟨b, off + k * size, none⟩) size g ((l.drop k).take n) := by
  intro hl
  simp only [List.length_take, List.length_drop] at hl
  obtain ⟨b', off', e, hb, hc⟩ := h (by omega)
  injection e with e
  injection e with e1 e2
  subst e1 e2
  refine ⟨b, off + k * size, rfl, hb, fun i hi j u hu => ?_⟩
  simp only [List.length_take, List.length_drop] at hi
  have h1 := hc (k + i) (by omega) j u (by simpa [List.getElem_take, List.getElem_drop] using hu)
  rw [Nat.add_mul, ← Nat.add_assoc] at h1
  exact h1

theorem askOf_zero {n : Nat} {l : List Int} (h : askOf n l = 0) : memOk n = true ∧ thereB ((n : Int) / 8) l = true := by
  unfold askOf at h
  split at h
  · rename_i h1
    split at h
    · rename_i h2; exact ⟨h1, h2⟩
    · omega
  · omega

theorem at_new1 {α : Type} {g : α → List Value} {t : TypeId} (W : World) (u : Value) (x : α) (b : Nat) (hb : b = W.heap.size) (hx : g x = [u]) : At (W.alloc (.cells #[u] t)) (some ⟨b, 0, none⟩) 1 g [x] := by
  subst hb
  intro _
  refine ⟨_, 0, rfl, by simp, fun i hi j v hv => ?_⟩
  have hi0 : i = 0 := by simpa using hi
  subst hi0
  rw [cell_of_row _ _ _ _ _ _ (heap_new W _)]
  simp only [List.getElem_cons_zero, hx] at hv
  simpa using hv

set_option maxHeartbeats 1000000 in
theorem Frame_no (A : Option Addr) (c n : Nat) (f : Int) (w : World) (hn : n ≤ 140737488355328) (h : askOf n [f] ≠ 0) :
    Calls Try.prog 39 #[.agg #[.slice A n c], .int .i64 f] w fun e w' => e = .returned (.tuple #[.slice none 0 0, .int .i64 (askOf n [f])]) ∧ Below w.heap.size w w' := by
  have HA := Lib.hid (fun (L : Option Addr) W (hL : At W L 1 intCells [f]) => ask_any A L c 1 n [f] W hn (by simp) hL)
  generalize askOf n [f] = r at *
  have q : (r != 0) = true := by simpa using h
  clear h
  go_enter Try.func39, Try.ntmps39
  go_wp2_with fail
  refine Calls.mono (HA.out _ _ (by exact at_new1 _ _ _ _ (by simp) rfl)) ?_
  rintro e w1 ⟨rfl, hb1⟩
  have hs1 := hb1.size
  try simp at hs1
  have hc1_0 := fun o => (bcell hb1).1 (w.heap.size) o (by first | omega | (simp; done) | (simp; omega))
  have hf1_0 := fun o => (bcell hb1).2.1 (w.heap.size) o (by first | omega | (simp; done) | (simp; omega))
  have hz1_0 := (bcell hb1).2.2 (w.heap.size) (by first | omega | (simp; done) | (simp; omega))
  have HB1 := Lib.hid hb1
  clear hb1
  go_wp2
  go_ret2
  exact ⟨rfl, (by repeat' (first | (with_reducible exact Below.refl _ _) | (with_reducible (refine Below.setCell ?_ ?_ _)) | (with_reducible (refine Below.alloc ?_ ?_ _)) | (with_reducible (refine Below.drew ?_)) | (with_reducible (refine below_via ?_ HB1.out ?_)) | omega | (simp; done) | (simp; omega)))⟩

set_option maxHeartbeats 1000000 in
theorem Frame_yes (A : Option Addr) (c : Nat) (ws : List Int) (f : Nat) (w : World) (hn : ws.length ≤ 512) (hc : ws.length ≤ c) (hA : At w A 1 wordCells ws) (h : askOf ws.length [(f : Int)] = 0) (hf : 8 * f + 8 ≤ ws.length) :
    Calls Try.prog 39 #[.agg #[.slice A ws.length c], .int .i64 f] w fun e w' => ∃ A' c', e = .returned (.tuple #[.slice A' (frameOf ws f).length c', .int .i64 0]) ∧ Own w' (w.heap.size + 1) wordT 1 wordCells (frameOf ws f) A' c' ∧ Below w.heap.size w w' := by
  have HA := Lib.hid (fun (L : Option Addr) W (hL : At W L 1 intCells [(f : Int)]) => ask_any A L c 1 ws.length [(f : Int)] W (by omega) (by simp) hL)
  rw [h] at HA
  obtain ⟨b, off, rfl, hbl, _⟩ := hA (by omega)
  have HO := Lib.hid (fun W => memOf_any b off c ws.length f W hn hc hf)
  have hfl := frame_len ws f hf
  have HC := Lib.hid (fun W (hb : Below w.heap.size w W) => clone_any (some ⟨b, off + f * 8, none⟩) (c - f * 8) (frameOf ws f) W (by omega) (by have := (hA.cut (f * 8) 8).below hb; rwa [Nat.mul_one] at this))
  rw [hfl] at HC
  have HFL := Lib.hid hfl
  clear h hA hfl
  go_enter Try.func39, Try.ntmps39
  go_wp2_with fail
  refine Calls.mono (HA.out _ _ (by exact at_new1 _ _ _ _ (by simp) rfl)) ?_
  rintro e w1 ⟨rfl, hb1⟩
  have hs1 := hb1.size
  try simp at hs1
  have hc1_0 := fun o => (bcell hb1).1 (w.heap.size) o (by first | omega | (simp; done) | (simp; omega))
  have hf1_0 := fun o => (bcell hb1).2.1 (w.heap.size) o (by first | omega | (simp; done) | (simp; omega))
  have hz1_0 := (bcell hb1).2.2 (w.heap.size) (by first | omega | (simp; done) | (simp; omega))
  have HB1 := Lib.hid hb1
  clear hb1
  go_wp2_with fail
  refine Calls.mono (HO.out _) ?_
  rintro e w2 ⟨rfl, hb2⟩
  have hs2 := hb2.size
  try simp at hs2
  have hc2_0 := fun o => (bcell hb2).1 (w.heap.size) o (by first | omega | (simp; done) | (simp; omega))
  have hf2_0 := fun o => (bcell hb2).2.1 (w.heap.size) o (by first | omega | (simp; done) | (simp; omega))
  have hz2_0 := (bcell hb2).2.2 (w.heap.size) (by first | omega | (simp; done) | (simp; omega))
  have HB2 := Lib.hid hb2
  clear hb2
  go_wp2_with fail
  refine Calls.mono (HC.out _ (by repeat' (first | (with_reducible exact Below.refl _ _) | (with_reducible (refine Below.setCell ?_ ?_ _)) | (with_reducible (refine Below.alloc ?_ ?_ _)) | (with_reducible (refine Below.drew ?_)) | (with_reducible (refine below_via ?_ HB2.out ?_)) | (with_reducible (refine below_via ?_ HB1.out ?_)) | omega | (simp; done) | (simp; omega)))) ?_
  rintro e w3 ⟨A', c', rfl, hown, hb3⟩
  have hs3 := hb3.size
  try simp at hs3
  have hc3_0 := fun o => (bcell hb3).1 (w.heap.size) o (by first | omega | (simp; done) | (simp; omega))
  have hf3_0 := fun o => (bcell hb3).2.1 (w.heap.size) o (by first | omega | (simp; done) | (simp; omega))
  have hz3_0 := (bcell hb3).2.2 (w.heap.size) (by first | omega | (simp; done) | (simp; omega))
  have HB3 := Lib.hid hb3
  clear hb3
  have Hhown := Lib.hid hown
  clear hown
  go_wp2_with fail
  go_ret2
  exact ⟨A', c', by rw [HFL.out]; rfl, Hhown.out.mono (by omega), (by repeat' (first | (with_reducible exact Below.refl _ _) | (with_reducible (refine Below.setCell ?_ ?_ _)) | (with_reducible (refine Below.alloc ?_ ?_ _)) | (with_reducible (refine Below.drew ?_)) | (with_reducible (refine below_via ?_ HB3.out ?_)) | (with_reducible (refine below_via ?_ HB2.out ?_)) | (with_reducible (refine below_via ?_ HB1.out ?_)) | omega | (simp; done) | (simp; omega)))⟩

end Go.Proofs.Ytddbndmbcdeggaa
