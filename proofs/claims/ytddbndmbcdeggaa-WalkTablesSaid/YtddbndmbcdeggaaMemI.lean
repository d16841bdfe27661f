/-
  Whether a memory has frames: the library's search with a function of the program's. Conditions: the lengths fit.
-/
import Derived.Test.YtddbndmbcdeggaaMemH
namespace Go.Proofs.Ytddbndmbcdeggaa
open Go.RowKit

theorem has1_any (g n : Nat) (A : Option Addr) (c : Nat) (f : Int) (w : World) (hn : n ≤ 140737488355328) (hc : w.cell? ⟨g, 0, none⟩ = some (.slice A n c)) :
    Calls Try.prog 85 #[.int .i64 f, .pointer (some ⟨g, 0, none⟩)] w fun e w' => e = .returned (.bool (!numB f ((n : Int) / 8 - 1))) ∧ Below w.heap.size w w' := by
  have HF := Lib.hid (fun W => memFrames_any A n c W (by omega))
  have hs : numB f ((n : Int) / 8 - 1) = (decide (0 ≤ f) && decide (f < (n : Int) / 8)) := by
    unfold numB
    congr 1
    simp
    omega
  have HS := Lib.hid hs
  clear hs
  by_cases h0 : f < 0
  · have HM := Lib.hid (show numB f ((n : Int) / 8 - 1) = false by rw [HS.out]; simp; omega)
    go_enter Try.func85, Try.ntmps85
    go_wp2
    go_ret
    exact ⟨by rw [HM.out]; rfl, Below.refl _ _⟩
  · by_cases h1 : (n : Int) / 8 ≤ f
    · have HM := Lib.hid (show numB f ((n : Int) / 8 - 1) = false by rw [HS.out]; simp; omega)
      have q1 : decide ((n : Int) / 8 ≤ f) = true := by simp; omega
      go_enter Try.func85, Try.ntmps85
      go_wp2_with fail
      refine Calls.mono (HF.out _) ?_
      rintro e w1 ⟨rfl, hb1⟩
      have hs1 := hb1.size
      try simp at hs1
      have HB1 := Lib.hid hb1
      clear hb1
      go_wp2
      go_ret
      exact ⟨by rw [HM.out]; rfl, HB1.out⟩
    · have HM := Lib.hid (show numB f ((n : Int) / 8 - 1) = true by rw [HS.out]; simp; omega)
      have q1 : decide ((n : Int) / 8 ≤ f) = false := by simp; omega
      go_enter Try.func85, Try.ntmps85
      go_wp2_with fail
      refine Calls.mono (HF.out _) ?_
      rintro e w1 ⟨rfl, hb1⟩
      have hs1 := hb1.size
      try simp at hs1
      have HB1 := Lib.hid hb1
      clear hb1
      go_wp2
      go_ret
      exact ⟨by rw [HM.out]; rfl, HB1.out⟩

/-- The place of the first one that is asked for; -1: there is none. -/
def idx {α : Type} (p : α → Bool) (l : List α) : Int := if l.any p then (l.findIdx p : Int) else -1

theorem any_take_step {α : Type} {p : α → Bool} {l : List α} {k : Nat} (h : (l.take k).any p = false) (hk : k < l.length) (hp : p l[k] = false) : (l.take (k + 1)).any p = false := by
  rw [take_snoc_get l k hk, List.any_append, h]; simp [hp]
theorem idx_yes {α : Type} {p : α → Bool} {l : List α} {k : Nat} (h : (l.take k).any p = false) (hk : k < l.length) (hp : p l[k] = true) : idx p l = k := by
  have ha : l.any p = true := List.any_eq_true.2 ⟨_, List.getElem_mem hk, hp⟩
  unfold idx
  rw [if_pos ha]
  have : l.findIdx p = k := by
    rw [List.findIdx_eq hk]
    refine ⟨hp, fun j hj => ?_⟩
    have := List.any_eq_false.1 h l[j] (by rw [List.mem_take_iff_getElem]; exact ⟨j, by omega, rfl⟩)
    simpa using this
  rw [this]
theorem idx_no {α : Type} {p : α → Bool} {l : List α} {k : Nat} (h : (l.take k).any p = false) (hk : l.length ≤ k) : idx p l = -1 := by
  rw [List.take_of_length_le hk] at h
  unfold idx
  rw [if_neg (by rw [h]; decide)]

set_option maxHeartbeats 1000000 in
theorem IndexFunc_int (K : Nat) (cap : Value) (p : Int → Bool) (L : Option Addr) (cl : Nat) (l : List Int) (w : World) (hl : l.length ≤ 140737488355328) (hL : At w L 1 intCells l)
    (hK : ∀ (v : Value) (W : World), Sem.run Try.prog (callFunc K #[v, cap]) W = .ok (.enter K #[v, cap]) W)
    (hp : ∀ (W : World) (x : Int), Below w.heap.size w W → Calls Try.prog K #[.int .i64 x, cap] W fun e w' => e = .returned (.bool (p x)) ∧ Below W.heap.size W w') :
    Calls Try.prog 91 #[.slice L l.length cl, .func (.func K) #[] #[cap]] w fun e w' => e = .returned (.int .i64 (idx p l)) ∧ Below w.heap.size w w' := by
  have HP := Lib.hid hp
  clear hp
  go_enter Try.func91, Try.ntmps91
  go_wp2
  go_loopw [8] (fun i wr => ∃ k : Nat, k ≤ l.length ∧ i = .int .i64 k ∧ (l.take k).any p = false ∧ Below w.heap.size w wr) (fun i _ => l.length - (intOf i).toNat)
  case atStart => exact ⟨0, Nat.zero_le _, rfl, rfl, Below.refl _ _⟩
  case round =>
    obtain ⟨k, hk, rfl, ht, hbw⟩ := hrel
    have HT := Lib.hid ht
    clear ht
    have HBW := Lib.hid hbw
    have hsw := hbw.size
    clear hbw
    by_cases hlt : k < l.length
    · obtain ⟨ba, oa, rfl, hba, hca⟩ := at_cell hL HBW.out hlt rfl
      obtain ⟨x, hxk⟩ : ∃ x, l[k] = x := ⟨_, rfl⟩
      rw [hxk] at hca
      have HXK := Lib.hid hxk
      clear hxk
      have hki : (k : Int) < l.length := by omega
      go_wp2_with fail
      cases hg : p x
      · have HG := Lib.hid hg
        refine Calls.mono (HP.out _ _ HBW.out) ?_
        rintro e w1 ⟨rfl, hb1⟩
        have hs1 := hb1.size
        try simp at hs1
        have HB1 := Lib.hid hb1
        clear hb1
        rw [HG.out]
        clear hg
        go_wp2
        go_roundw
        case rel => exact ⟨k + 1, by omega, by go_num, any_take_step HT.out hlt (by rw [HXK.out]; exact HG.out), (by repeat' (first | (with_reducible exact Below.refl _ _) | (with_reducible (refine Below.setCell ?_ ?_ _)) | (with_reducible (refine Below.alloc ?_ ?_ _)) | (with_reducible (refine Below.drew ?_)) | (with_reducible (refine below_via ?_ HB1.out ?_)) | (with_reducible (refine below_via ?_ HBW.out ?_)) | omega | (simp; done) | (simp; omega)))⟩
        case measure => simp [intOf]; omega
      · have HG := Lib.hid hg
        refine Calls.mono (HP.out _ _ HBW.out) ?_
        rintro e w1 ⟨rfl, hb1⟩
        have hs1 := hb1.size
        try simp at hs1
        have HB1 := Lib.hid hb1
        clear hb1
        rw [HG.out]
        clear hg
        go_wp2
        go_ret
        exact ⟨by rw [idx_yes HT.out hlt (by rw [HXK.out]; exact HG.out)]; rfl, (by repeat' (first | (with_reducible exact Below.refl _ _) | (with_reducible (refine Below.setCell ?_ ?_ _)) | (with_reducible (refine Below.alloc ?_ ?_ _)) | (with_reducible (refine Below.drew ?_)) | (with_reducible (refine below_via ?_ HB1.out ?_)) | (with_reducible (refine below_via ?_ HBW.out ?_)) | omega | (simp; done) | (simp; omega)))⟩
    · go_wp2
      go_ret
      exact ⟨by rw [idx_no HT.out (by omega)]; rfl, HBW.out⟩

theorem idx_ge {α : Type} (p : α → Bool) (l : List α) : decide (0 ≤ idx p l) = l.any p := by
  unfold idx
  split
  · rename_i h; simp [h]
  · rename_i h; simp only [Bool.not_eq_true] at h; rw [h]; decide

set_option maxHeartbeats 1000000 in
theorem ContainsFunc_int (K : Nat) (cap : Value) (p : Int → Bool) (L : Option Addr) (cl : Nat) (l : List Int) (w : World) (hl : l.length ≤ 140737488355328) (hL : At w L 1 intCells l)
    (hK : ∀ (v : Value) (W : World), Sem.run Try.prog (callFunc K #[v, cap]) W = .ok (.enter K #[v, cap]) W)
    (hp : ∀ (W : World) (x : Int), Below w.heap.size w W → Calls Try.prog K #[.int .i64 x, cap] W fun e w' => e = .returned (.bool (p x)) ∧ Below W.heap.size W w') :
    Calls Try.prog 84 #[.slice L l.length cl, .func (.func K) #[] #[cap]] w fun e w' => e = .returned (.bool (l.any p)) ∧ Below w.heap.size w w' := by
  have HI := Lib.hid (IndexFunc_int K cap p L cl l w hl hL hK hp)
  have HG := Lib.hid (idx_ge p l)
  clear hp hL hK
  go_enter Try.func84, Try.ntmps84
  go_wp2_with fail
  refine Calls.mono (HI.out) ?_
  rintro e w1 ⟨rfl, hb1⟩
  have hs1 := hb1.size
  try simp at hs1
  have HB1 := Lib.hid hb1
  clear hb1
  generalize idx p l = ix at *
  go_wp2
  go_ret
  exact ⟨by rw [← HG.out]; rfl, HB1.out⟩

theorem any_not_there (k : Int) (l : List Int) : (l.any fun f => !numB f (k - 1)) = !thereB k l := by
  unfold thereB
  rw [List.not_all_eq_any_not]

set_option maxHeartbeats 1000000 in
theorem memHas_any (A L : Option Addr) (c cl n : Nat) (l : List Int) (w : World) (hn : n ≤ 140737488355328) (hl : l.length ≤ 140737488355328) (hL : At w L 1 intCells l) :
    Calls Try.prog 74 #[.agg #[.slice A n c], .slice L l.length cl] w fun e w' => e = .returned (.bool (thereB ((n : Int) / 8) l)) ∧ Below w.heap.size w w' := by
  have HC := Lib.hid (fun W (hb : Below w.heap.size w W) (g : Nat) (hg : ∀ W', Below W.heap.size W W' → W'.cell? ⟨g, 0, none⟩ = some (.slice A n c)) =>
    ContainsFunc_int 85 (.pointer (some ⟨g, 0, none⟩)) (fun f => !numB f ((n : Int) / 8 - 1)) L cl l W hl (hL.below hb) (fun _ _ => by kernel_rfl) (fun W' x hb' => has1_any g n A c x W' hn (hg W' hb')))
  clear hL
  have HN := Lib.hid (any_not_there ((n : Int) / 8) l)
  go_enter Try.func74, Try.ntmps74
  go_wp2_with fail
  refine Calls.mono (HC.out _ ((Below.refl _ _).alloc (Nat.le_refl _) _) w.heap.size (fun W' hb => (hb.cell (by simp)).trans (by go_simp))) ?_
  rintro e w1 ⟨rfl, hb1⟩
  have hs1 := hb1.size
  try simp at hs1
  have HB1 := Lib.hid hb1
  clear hb1
  rw [HN.out]
  go_wp2
  go_ret
  exact ⟨by simp, (by repeat' (first | (with_reducible exact Below.refl _ _) | (with_reducible (refine Below.setCell ?_ ?_ _)) | (with_reducible (refine Below.alloc ?_ ?_ _)) | (with_reducible (refine Below.drew ?_)) | (with_reducible (refine below_via ?_ HB1.out ?_)) | omega | (simp; done) | (simp; omega)))⟩

end Go.Proofs.Ytddbndmbcdeggaa
