/-
  The page's own Zero; the write over; a number within bounds; a place of a number. Conditions: the frames are there; the lengths fit.
-/
import Derived.Test.YtipepkmmjdlpoaaMemM
namespace Go.Proofs.Ytipepkmmjdlpoaa
open Go.RowKit

theorem zeros_succ (k : Nat) : zeros (k + 1) = zeros k ++ [0] := by unfold zeros; rw [List.replicate_succ']

set_option maxHeartbeats 2000000 in
theorem refZero_any (A L : Option Addr) (c cl : Nat) (ws l : List Int) (w : World) (hn : ws.length ≤ 512) (hn0 : 0 < ws.length) (hl : l.length ≤ 140737488355328) (hA : At w A 1 wordCells ws) (hL : At w L 1 intCells l) (hth : thereB ((ws.length : Int) / 8) l = true) :
    Calls Try.prog 27 #[.agg #[.slice A ws.length c], .slice L l.length cl] w fun e w' => ∃ A' c',
      e = .returned (.agg #[.slice A' ws.length c']) ∧ Own w' (w.heap.size + 2) wordT 1 wordCells (zeroed ws l) A' c' ∧ Below w.heap.size w w' := by
  have HCP := Lib.hid (fun W (hb : Below w.heap.size w W) => CopyMem_any A c ws W (by omega) (hA.below hb))
  have HL := Lib.hid hL
  have HTH := Lib.hid hth
  clear hA hL hth
  go_enter Try.func27, Try.ntmps27
  go_wp2_with fail
  refine Calls.mono (HCP.out _ (by repeat' (first | (with_reducible exact Below.refl _ _) | (with_reducible (refine Below.setCell ?_ ?_ _)) | (with_reducible (refine Below.alloc ?_ ?_ _)) | (with_reducible (refine Below.drew ?_)) | omega | (simp; done) | (simp; omega)))) ?_
  rintro e w2 ⟨A', c', rfl, hown, hb2⟩
  have hs2 := hb2.size
  try simp at hs2
  have hc2_0 := fun o => (bcell hb2).1 (w.heap.size) o (by first | omega | (simp; done) | (simp; omega))
  have hf2_0 := fun o => (bcell hb2).2.1 (w.heap.size) o (by first | omega | (simp; done) | (simp; omega))
  have hz2_0 := (bcell hb2).2.2 (w.heap.size) (by first | omega | (simp; done) | (simp; omega))
  have hc2_1 := fun o => (bcell hb2).1 (w.heap.size + 1) o (by first | omega | (simp; done) | (simp; omega))
  have hf2_1 := fun o => (bcell hb2).2.1 (w.heap.size + 1) o (by first | omega | (simp; done) | (simp; omega))
  have hz2_1 := (bcell hb2).2.2 (w.heap.size + 1) (by first | omega | (simp; done) | (simp; omega))
  have HB2 := Lib.hid hb2
  clear hb2
  have Hhown := Lib.hid hown
  clear hown
  go_wp2_with fail
  obtain ⟨g, rfl, hg1, hg2, hg3⟩ := Hhown.out.spot hn0
  simp at hg1
  have HO2 := Lib.hid (Hhown.out.mono (base' := w.heap.size + 5) (by simp))
  clear Hhown
  go_loopw [6] (fun i wr => ∃ k : Nat, k ≤ l.length ∧ i = .int .i64 k ∧ Own wr (w.heap.size + 5) wordT 1 wordCells (zeroed ws (l.take k)) (some ⟨g, 0, none⟩) c' ∧ wr.heap[w2.heap.size]? = some (.cells #[.slice (some ⟨g, 0, none⟩) ws.length c'] 24 (0, 0)) ∧ wr.heap[w.heap.size + 1]? = some (.cells #[.slice none 0 0] 24 (0, 0)) ∧ Below w.heap.size w wr) (fun i _ => l.length - (intOf i).toNat)
  case atStart => exact ⟨0, Nat.zero_le _, rfl, HO2.out.alloc _, heap_new _ _, (by repeat (first | (with_reducible assumption) | (with_reducible refine heap_below_is HB2.out (by (first | omega | (simp; done) | (simp; omega))) ?_) | (exact heap_at _ _ (by simp; done)) | (with_reducible refine heap_old_is _ _ (by (first | omega | (simp; done) | (simp; omega))) ?_) | (with_reducible refine heap_far_is (by (first | omega | (simp; done) | (simp; omega))) ?_))), (by repeat' (first | (with_reducible exact Below.refl _ _) | (with_reducible (refine Below.setCell ?_ ?_ _)) | (with_reducible (refine Below.alloc ?_ ?_ _)) | (with_reducible (refine Below.drew ?_)) | (with_reducible (refine below_via ?_ HB2.out ?_)) | omega | (simp; done) | (simp; omega)))⟩
  case round =>
    obtain ⟨k, hk, rfl, hown, hx, hy, hbw⟩ := hrel
    have HOWN := Lib.hid hown
    have HX := Lib.hid hx
    have HY := Lib.hid hy
    have HBW := Lib.hid hbw
    have hxl := heap_lt hx
    have hyl := heap_lt hy
    have hgl := (hown.block_ rfl).2
    dsimp only at hgl
    clear hown hx hy hbw
    by_cases hlt : k < l.length
    · obtain ⟨ba, oa, rfl, hba, hca0⟩ := at_cell HL.out HBW.out hlt rfl
      obtain ⟨x, hxk, hxn⟩ := there_at HTH.out hlt
      rw [hxk] at hca0
      have HXK := Lib.hid hxk
      have HCA := Lib.hid (show w.cell? ⟨ba, oa + k, none⟩ = some (.int .i64 x) by rw [← hca0, HBW.out.cell (p := ⟨ba, oa + k, none⟩) hba])
      clear hxk hca0
      have hki : (k : Int) < l.length := by omega
      have hx8 : 8 * x + 8 ≤ ws.length := by omega
      go_wp2_with fail
      obtain ⟨wo, hwo⟩ : ∃ wo : World, wo = wr := ⟨_, rfl⟩
      subst hwo
      go_loopw [7] (fun j wr => ∃ m : Nat, m ≤ 8 ∧ j = .int .i64 m ∧ Own wr (w.heap.size + 5) wordT 1 wordCells (setAll (zeroed ws (l.take k)) (x * 8) (zeros m)) (some ⟨g, 0, none⟩) c' ∧ wr.heap[w2.heap.size]? = some (.cells #[.slice (some ⟨g, 0, none⟩) ws.length c'] 24 (0, 0)) ∧ wr.heap[w.heap.size + 1]? = some (.cells #[.slice none 0 0] 24 (0, 0)) ∧ Below w.heap.size w wr) (fun j _ => 8 - (intOf j).toNat)
      case atStart => exact ⟨0, by omega, rfl, HOWN.out, HX.out, HY.out, HBW.out⟩
      case round =>
        obtain ⟨m, hm, rfl, hown, hx, hy, hbw⟩ := hrel
        by_cases hlm : m < 8
        · have HOWN2 := Lib.hid hown
          have HX2 := Lib.hid hx
          have HY2 := Lib.hid hy
          have HBW2 := Lib.hid hbw
          have hsw2 := hbw.size
          have e0 := cell_of_row _ _ 0 _ _ _ hx
          have hxl2 := heap_lt hx
          have hgl2 := (hown.block_ rfl).2
          dsimp only at hgl2
          have hca := (hbw.cell (p := ⟨ba, oa + k, none⟩) hba).trans HCA.out
          have hba2 : ba < wr.heap.size := by omega
          clear hown hx hy hbw
          have hq1 : IntKind.i64.wrap ((x : Int) * 8) = ((x * 8 : Nat) : Int) := by rw [show ((x : Int) * 8) = ((x * 8 : Nat) : Int) by omega]; exact IntWalk.i64_in _ (by omega)
          have hq2 : IntKind.i64.wrap (((x * 8 : Nat) : Int) + (m : Int)) = ((x * 8 + m : Nat) : Int) := by rw [show (((x * 8 : Nat) : Int) + (m : Int)) = ((x * 8 + m : Nat) : Int) by omega]; exact IntWalk.i64_in _ (by omega)
          have hm0 : (0 : Int) ≤ ((x * 8 + m : Nat) : Int) := by omega
          have hml : ((x * 8 + m : Nat) : Int) < ws.length := by omega
          have HSL := Lib.hid (show (setAll (zeroed ws (l.take k)) (x * 8) (zeros m)).length = ws.length by rw [setAll_len, zeroed_len])
          have HG := Lib.hid (HOWN2.out.some_ (x * 8 + m) (by rw [HSL.out]; omega))
          go_wp2_with fail
          refine wp_region_class_tail 9 (fun w' => Below (wr.heap.size) (wr) w') (by kernel_rfl) (by kernel_rfl) (by kernel_rfl) (Below.refl _ _).drew ?_
          repeat (first
            | (refine wpLex_pass (by rfl) passes_plain ?_; (conv => arg 9; simp only [put_lit, put_lit_none, List.set]))
            | (refine wpLex_plain (by rfl) ?_
               apply Exists.intro
               refine ⟨?_, ?_⟩
               · intro w' hb
                 have hsz := hb.size
                 try simp at hsz
                 have hcw := fun b o (h : b < wr.heap.size) => hb.cell (p := ⟨b, o, none⟩) h
                 have hfw := fun b o (h : b < wr.heap.size) => hb.frozen (p := ⟨b, o, none⟩) h
                 go_simp
                 first
                   | exact ⟨rfl, hb⟩
                   | exact rfl
               conv => arg 9; simp only [put_lit, put_lit_none, List.set]))
          refine wpLex_nil ?_
          intro wq hbq
          have hsq := hbq.size
          try simp at hsq
          have hcq := fun b o (h : b < wr.heap.size) => hbq.cell (p := ⟨b, o, none⟩) h
          have hfq := fun b o (h : b < wr.heap.size) => hbq.frozen (p := ⟨b, o, none⟩) h
          have HBq := Lib.hid hbq
          clear hbq
          simp only [List.drop]
          have HOWNq := Lib.hid (HOWN2.out.below HBq.out (Nat.le_refl _))
          have hgs := (HOWNq.out.some_ (x * 8 + m) (by rw [HSL.out]; omega)).1
          have hgf := (HOWNq.out.some_ (x * 8 + m) (by rw [HSL.out]; omega)).2
          obtain ⟨old, hold⟩ := Option.isSome_iff_exists.1 hgs
          clear hgs hq1 hq2 hcq hfq
          go_wp2
          go_roundw
          case rel =>
            refine ⟨m + 1, by omega, by go_num, ?_, ?_, ?_, ?_⟩
            · have hh := HOWNq.out.set1 word_len (i := x * 8 + m) 0 (.int .u64 0) rfl
              rw [zeros_succ, setAll_snoc, show x * 8 + (zeros m).length = x * 8 + m by simp [zeros]]
              exact hh
            · exact heap_far_is (by simp; omega) (heap_below_is HBq.out hxl2 HX2.out)
            · exact heap_far_is (by simp; omega) (heap_below_is HBq.out (by omega) HY2.out)
            · repeat' (first | (with_reducible exact Below.refl _ _) | (with_reducible (refine Below.setCell ?_ ?_ _)) | (with_reducible (refine Below.alloc ?_ ?_ _)) | (with_reducible (refine Below.drew ?_)) | (with_reducible (refine below_via ?_ HBq.out ?_)) | (with_reducible (refine below_via ?_ HBW2.out ?_)) | omega | (simp; done) | (simp; omega))
          case measure => simp [intOf]; omega
        · have HOWN2 := Lib.hid hown
          have HX2 := Lib.hid hx
          have HY2 := Lib.hid hy
          have HBW2 := Lib.hid hbw
          clear hown hx hy hbw
          obtain rfl : m = 8 := by omega
          go_wp2
          go_roundw
          case rel =>
            refine ⟨k + 1, by omega, by go_num, ?_, HX2.out, HY2.out, HBW2.out⟩
            rw [take_snoc_get l k hlt, zeroed_snoc, HXK.out]
            exact HOWN2.out
          case measure => simp [intOf]; omega
    · have hx := HX.out
      have e0 := cell_of_row _ _ 0 _ _ _ hx
      have ef := fun j => frozen_of_row _ _ j _ _ hx
      have hy := HY.out
      have y0 := cell_of_row _ _ 0 _ _ _ hy
      have yf := fun j => frozen_of_row _ _ j _ _ hy
      clear hx hy
      go_wp2
      refine bodyPost_ret (v := .agg #[.slice (some ⟨g, 0, none⟩) ws.length c']) (by simp [results, Try.results27, go_sem, *]) rfl ⟨_, _, rfl, ?_, ?_⟩
      · exact (HOWN.out.len (by rw [List.take_of_length_le (by omega)])).set_far (by simp) _ |>.mono (by omega)
      · repeat' (first | (with_reducible exact Below.refl _ _) | (with_reducible (refine Below.setCell ?_ ?_ _)) | (with_reducible (refine Below.alloc ?_ ?_ _)) | (with_reducible (refine Below.drew ?_)) | (with_reducible (refine below_via ?_ HBW.out ?_)) | omega | (simp; done) | (simp; omega))

end Go.Proofs.Ytipepkmmjdlpoaa
