/-
  Memories: copied, the same, written over; whether frames are there. Conditions: the lengths fit.
-/
import Derived.Test.YtipepkmmjdlpoaaMemG
namespace Go.Proofs.Ytipepkmmjdlpoaa
open Go.RowKit

set_option maxHeartbeats 1000000 in
theorem CopyMem_any (A : Option Addr) (c : Nat) (ws : List Int) (w : World) (hn : ws.length ≤ 1000000) (hA : At w A 1 wordCells ws) :
    Calls Try.prog 21 #[.agg #[.slice A ws.length c]] w fun e w' => ∃ A' c', e = .returned (.agg #[.slice A' ws.length c']) ∧ Own w' (w.heap.size + 3) wordT 1 wordCells ws A' c' ∧ Below w.heap.size w w' := by
  have HC := Lib.hid (fun W (hb : Below w.heap.size w W) => CopyWords_any A c ws W hn (hA.below hb))
  clear hA
  go_enter Try.func21, Try.ntmps21
  go_wp2_with fail
  refine Calls.mono (HC.out _ (by repeat' (first | (with_reducible exact Below.refl _ _) | (with_reducible (refine Below.setCell ?_ ?_ _)) | (with_reducible (refine Below.alloc ?_ ?_ _)) | (with_reducible (refine Below.drew ?_)) | omega | (simp; done) | (simp; omega)))) ?_
  rintro e w1 ⟨A', c', rfl, hown, hb1⟩
  have hs1 := hb1.size
  try simp at hs1
  have hc1_0 := fun o => (bcell hb1).1 (w.heap.size) o (by first | omega | (simp; done) | (simp; omega))
  have hf1_0 := fun o => (bcell hb1).2.1 (w.heap.size) o (by first | omega | (simp; done) | (simp; omega))
  have hz1_0 := (bcell hb1).2.2 (w.heap.size) (by first | omega | (simp; done) | (simp; omega))
  have hc1_1 := fun o => (bcell hb1).1 (w.heap.size + 1) o (by first | omega | (simp; done) | (simp; omega))
  have hf1_1 := fun o => (bcell hb1).2.1 (w.heap.size + 1) o (by first | omega | (simp; done) | (simp; omega))
  have hz1_1 := (bcell hb1).2.2 (w.heap.size + 1) (by first | omega | (simp; done) | (simp; omega))
  have hc1_2 := fun o => (bcell hb1).1 (w.heap.size + 2) o (by first | omega | (simp; done) | (simp; omega))
  have hf1_2 := fun o => (bcell hb1).2.1 (w.heap.size + 2) o (by first | omega | (simp; done) | (simp; omega))
  have hz1_2 := (bcell hb1).2.2 (w.heap.size + 2) (by first | omega | (simp; done) | (simp; omega))
  have HB1 := Lib.hid hb1
  clear hb1
  have Hhown := Lib.hid hown
  clear hown
  go_wp2_with fail
  refine bodyPost_ret (v := .agg #[.slice A' ws.length c']) (by simp [results, Try.results21, go_sem, *]) rfl ⟨A', c', rfl, ?_, ?_⟩
  · exact (((Hhown.out.mono (by simp)).set_far (by simp) _).set_far (by simp) _)
  · repeat' (first | (with_reducible exact Below.refl _ _) | (with_reducible (refine Below.setCell ?_ ?_ _)) | (with_reducible (refine Below.alloc ?_ ?_ _)) | (with_reducible (refine Below.drew ?_)) | (with_reducible (refine below_via ?_ HB1.out ?_)) | omega | (simp; done) | (simp; omega))

set_option maxHeartbeats 1000000 in
theorem EqMem_any (A B : Option Addr) (ca cb : Nat) (xs ys : List Int) (w : World) (hx : xs.length ≤ 140737488355328) (hy : ys.length ≤ 140737488355328) (hA : At w A 1 wordCells xs) (hB : At w B 1 wordCells ys) :
    Calls Try.prog 33 #[.agg #[.slice A xs.length ca], .agg #[.slice B ys.length cb]] w fun e w' => e = .returned (.bool (decide (xs = ys))) ∧ Below w.heap.size w w' := by
  have HC := Lib.hid (fun W (hb : Below w.heap.size w W) => EqWords_any A B ca cb xs ys W hx hy (hA.below hb) (hB.below hb))
  clear hA hB
  go_enter Try.func33, Try.ntmps33
  go_wp2_with fail
  refine Calls.mono (HC.out _ (by repeat' (first | (with_reducible exact Below.refl _ _) | (with_reducible (refine Below.setCell ?_ ?_ _)) | (with_reducible (refine Below.alloc ?_ ?_ _)) | (with_reducible (refine Below.drew ?_)) | omega | (simp; done) | (simp; omega)))) ?_
  rintro e w1 ⟨rfl, hb1⟩
  have hs1 := hb1.size
  try simp at hs1
  have HB1 := Lib.hid hb1
  clear hb1
  go_wp2_with fail
  go_ret
  exact ⟨rfl, (by repeat' (first | (with_reducible exact Below.refl _ _) | (with_reducible (refine Below.setCell ?_ ?_ _)) | (with_reducible (refine Below.alloc ?_ ?_ _)) | (with_reducible (refine Below.drew ?_)) | (with_reducible (refine below_via ?_ HB1.out ?_)) | omega | (simp; done) | (simp; omega)))⟩

def intT : TypeId := 3
def intCells (n : Int) : List Value := [.int .i64 n]
theorem int_len (x : Int) : (intCells x).length = 1 := rfl

def inOf (l : List Int) (n : Int) : Int := match l.findIdx? (· == n) with | some i => i | none => -1

/-- All of them are numbers of frames. -/
def thereB (k : Int) (l : List Int) : Bool := l.all fun f => numB f (k - 1)

set_option maxHeartbeats 1000000 in
theorem there_any (A L : Option Addr) (c cl n : Nat) (l : List Int) (w : World) (hn : n ≤ 140737488355328) (hl : l.length ≤ 140737488355328) (hL : At w L 1 intCells l) :
    Calls Try.prog 19 #[.agg #[.slice A n c], .slice L l.length cl] w fun e w' => e = .returned (.bool (thereB ((n : Int) / 8) l)) ∧ Below w.heap.size w w' := by
  have HF := Lib.hid (fun W => refFrames_any A n c W (by omega))
  go_enter Try.func19, Try.ntmps19
  go_wp2
  obtain ⟨wo, hwo⟩ : ∃ wo, wo = w.alloc (.cells #[.slice A n c] 24) := ⟨_, rfl⟩
  have HBO := Lib.hid (show Below w.heap.size w wo by rw [hwo]; exact (Below.refl _ _).alloc (Nat.le_refl _) _)
  have HXO := Lib.hid (show wo.heap[w.heap.size]? = some (.cells #[.slice A n c] 24 (0, 0)) by rw [hwo]; exact heap_new _ _)
  have hso : w.heap.size < wo.heap.size := by rw [hwo]; simp
  have HLO := Lib.hid (hL.below HBO.out)
  rw [← hwo]
  clear hwo hL
  go_loopw [5] (fun i wr => ∃ k : Nat, k ≤ l.length ∧ i = .int .i64 k ∧ thereB ((n : Int) / 8) (l.take k) = true ∧ Below wo.heap.size wo wr) (fun i _ => l.length - (intOf i).toNat)
  case atStart => exact ⟨0, Nat.zero_le _, rfl, rfl, Below.refl _ _⟩
  case round =>
    obtain ⟨k, hk, rfl, ht, hbw⟩ := hrel
    have HT := Lib.hid ht
    clear ht
    have hz := hbw.size
    have HBW := Lib.hid hbw
    have hx := (hbw.block _ hso).trans HXO.out
    have e0 := cell_of_row _ _ 0 _ _ _ hx
    have ef := fun j => frozen_of_row _ _ j _ _ hx
    clear hbw hx
    by_cases hlt : k < l.length
    · obtain ⟨ba, oa, rfl, hba, hca⟩ := at_cell HLO.out HBW.out hlt rfl
      obtain ⟨x, hxk⟩ : ∃ x, l[k] = x := ⟨_, rfl⟩
      rw [hxk] at hca
      have HXK := Lib.hid hxk
      clear hxk
      have hki : (k : Int) < l.length := by omega
      have hswr : w.heap.size < wr.heap.size := by omega
      have hbar : ba < wr.heap.size := by omega
      have hwr : IntKind.i64.wrap ((n : Int) / 8 - 1) = (n : Int) / 8 - 1 := IntWalk.i64_in _ (by omega)
      cases hg : numB x ((n : Int) / 8 - 1)
      · have HF2 := Lib.hid (show thereB ((n : Int) / 8) l = false by rw [thereB, List.all_eq_false]; exact ⟨_, List.getElem_mem hlt, by rw [HXK.out, hg]; decide⟩)
        go_wp2_with fail
        refine wp_region_class (fun w' => Below (wr.heap.size) (wr) w') (by kernel_rfl) (by kernel_rfl) (Below.refl _ _).drew ?_
        repeat (first
          | (refine wpLex_pass (by rfl) passes_plain ?_; (conv => arg 9; simp only [put_lit, put_lit_none, List.set]))
          | (refine wpLex_plain (by rfl) ?_
             apply Exists.intro
             refine ⟨?_, ?_⟩
             · intro w' hb
               have hsz := hb.size
               try simp at hsz
               have hcw := fun b o (h : b < wr.heap.size) => hb.cell (p := ⟨b, o, none⟩) h
               have hfw := fun b o (h : b < wr.heap.size) => hb.frozen (p := ⟨b, o, none⟩) h
               go_simp
               first
                 | exact ⟨rfl, hb⟩
                 | exact rfl
                 | ((with_reducible refine Calls.mono (HF.out _) ?_); rintro e w2 ⟨rfl, hb2⟩; exact ⟨_, rfl, rfl, hb.trans (hb2.mono hsz)⟩)
                 | ((with_reducible refine Calls.mono (Num_any _ _ _) ?_); rintro e w2 ⟨rfl, rfl⟩; exact ⟨_, rfl, rfl, hb⟩)
             conv => arg 9; simp only [put_lit, put_lit_none, List.set]))
        refine wpLex_nil ?_
        intro wq hbq
        have hsq := hbq.size
        try simp at hsq
        have hcq := fun b o (h : b < wr.heap.size) => hbq.cell (p := ⟨b, o, none⟩) h
        have hfq := fun b o (h : b < wr.heap.size) => hbq.frozen (p := ⟨b, o, none⟩) h
        have HBq := Lib.hid hbq
        clear hbq
        go_wp2
        go_ret
        exact ⟨by rw [HF2.out]; rfl, (by repeat' (first | (with_reducible exact Below.refl _ _) | (with_reducible (refine Below.setCell ?_ ?_ _)) | (with_reducible (refine Below.alloc ?_ ?_ _)) | (with_reducible (refine Below.drew ?_)) | (with_reducible (refine below_via ?_ HBq.out ?_)) | (with_reducible (refine below_via ?_ HBW.out ?_)) | (with_reducible (refine below_via ?_ HBO.out ?_)) | omega | (simp; done) | (simp; omega)))⟩
      · have HS := Lib.hid (show thereB ((n : Int) / 8) (l.take (k + 1)) = true by rw [take_snoc_get l k hlt, thereB, List.all_append, ← thereB, HT.out, HXK.out]; simp [hg])
        go_wp2_with fail
        refine wp_region_class (fun w' => Below (wr.heap.size) (wr) w') (by kernel_rfl) (by kernel_rfl) (Below.refl _ _).drew ?_
        repeat (first
          | (refine wpLex_pass (by rfl) passes_plain ?_; (conv => arg 9; simp only [put_lit, put_lit_none, List.set]))
          | (refine wpLex_plain (by rfl) ?_
             apply Exists.intro
             refine ⟨?_, ?_⟩
             · intro w' hb
               have hsz := hb.size
               try simp at hsz
               have hcw := fun b o (h : b < wr.heap.size) => hb.cell (p := ⟨b, o, none⟩) h
               have hfw := fun b o (h : b < wr.heap.size) => hb.frozen (p := ⟨b, o, none⟩) h
               go_simp
               first
                 | exact ⟨rfl, hb⟩
                 | exact rfl
                 | ((with_reducible refine Calls.mono (HF.out _) ?_); rintro e w2 ⟨rfl, hb2⟩; exact ⟨_, rfl, rfl, hb.trans (hb2.mono hsz)⟩)
                 | ((with_reducible refine Calls.mono (Num_any _ _ _) ?_); rintro e w2 ⟨rfl, rfl⟩; exact ⟨_, rfl, rfl, hb⟩)
             conv => arg 9; simp only [put_lit, put_lit_none, List.set]))
        refine wpLex_nil ?_
        intro wq hbq
        have hsq := hbq.size
        try simp at hsq
        have hcq := fun b o (h : b < wr.heap.size) => hbq.cell (p := ⟨b, o, none⟩) h
        have hfq := fun b o (h : b < wr.heap.size) => hbq.frozen (p := ⟨b, o, none⟩) h
        have HBq := Lib.hid hbq
        clear hbq
        go_wp2
        go_roundw
        case rel => exact ⟨k + 1, by omega, by go_num, HS.out, (by repeat' (first | (with_reducible exact Below.refl _ _) | (with_reducible (refine Below.setCell ?_ ?_ _)) | (with_reducible (refine Below.alloc ?_ ?_ _)) | (with_reducible (refine Below.drew ?_)) | (with_reducible (refine below_via ?_ HBq.out ?_)) | (with_reducible (refine below_via ?_ HBW.out ?_)) | omega | (simp; done) | (simp; omega)))⟩
        case measure => simp [intOf]; omega
    · go_wp2
      go_ret
      exact ⟨by rw [← List.take_of_length_le (show l.length ≤ k by omega), HT.out]; rfl, (by repeat' (first | (with_reducible exact Below.refl _ _) | (with_reducible (refine Below.setCell ?_ ?_ _)) | (with_reducible (refine Below.alloc ?_ ?_ _)) | (with_reducible (refine Below.drew ?_)) | (with_reducible (refine below_via ?_ HBW.out ?_)) | (with_reducible (refine below_via ?_ HBO.out ?_)) | omega | (simp; done) | (simp; omega)))⟩

end Go.Proofs.Ytipepkmmjdlpoaa
