/-
  'MemExact' returns true, and of what was there nothing has turned. Conditions: the script reads as such.
-/
import Derived.Test.YtipepkmmjdlpoaaMemS0
import Derived.Deep.CutBlock
import Derived.Deep.DeepCutAuto
namespace Go.Proofs.Ytipepkmmjdlpoaa
open Go.RowKit


set_option maxRecDepth 100000 in
set_option maxHeartbeats 8000000 in
theorem memExact_walk (s : Script) (w : World) (hs : ScriptAt w s) :
    Calls Try.prog 5 #[.agg s.cells.toArray] w fun e w' => e = .returned (.bool true) ∧ Below w.heap.size w w' := by
  have HHV := Lib.hid (fun W (hb : Below w.heap.size w W) => heavy_any s W ⟨hs.mcap, hs.mlen, hs.mat.below hb, hs.mok, hs.llen, hs.lat.below hb, fun a ha => by
    obtain ⟨h1, h2, h3, h4, h5, h6, h7⟩ := hs.lok a ha
    exact ⟨h1, h2, h3, h4, h5, h6.below hb, h7⟩⟩)
  obtain ⟨hcap, hml, hmat, hmok, hll, hlat, hlok⟩ := hs
  obtain ⟨ma, mc, ws0, la, lc, acts⟩ := s
  simp only [Script.cells] at *
  have HMA := Lib.hid hmat
  have HMO := Lib.hid hmok
  have HLA := Lib.hid hlat
  have HLO := Lib.hid hlok
  have HWA := Lib.hid (fun W => wakes_any W)
  have HNU := Lib.hid (fun (n : Int) W => mnum_w n W)
  clear hcap hmat hmok hlat hlok
  go_enter Try.func5, Try.ntmps5
  go_wp2_with fail
  refine (HHV.out _ (by repeat' (first | (with_reducible exact Below.refl _ _) | (with_reducible (refine Below.setCell ?_ ?_ _)) | (with_reducible (refine Below.alloc ?_ ?_ _)) | (with_reducible (refine Below.drew ?_)) | omega | (simp; done) | (simp; omega)))).mono ?_
  rintro e w1 ⟨b, hlight, rfl, hb1⟩
  have hs1 := hb1.size
  simp at hs1
  have hc1 := fun o => (bcell hb1).1 w.heap.size o (by simp)
  have hf1 := fun o => (bcell hb1).2.1 w.heap.size o (by simp)
  have hz1 : w.heap.size < w1.heap.size := by omega
  have HB1 := Lib.hid hb1
  have HLIGHT := Lib.hid hlight
  clear hb1 hlight HHV
  cases b
  case true =>
    go_wp2
    go_ret
    exact ⟨rfl, (by repeat' (first | (with_reducible exact Below.refl _ _) | (with_reducible (refine Below.setCell ?_ ?_ _)) | (with_reducible (refine Below.alloc ?_ ?_ _)) | (with_reducible (refine Below.drew ?_)) | (with_reducible (refine below_via ?_ HB1.out ?_)) | omega | (simp; done) | (simp; omega)))⟩
  case false =>
    obtain ⟨hl1, hl2, hl3⟩ := HLIGHT.out rfl
    dsimp only at hl1 hl2 hl3
    have HL3 := Lib.hid hl3
    clear HLIGHT hl3
    have HCP := Lib.hid (fun W (hb : Below w.heap.size w W) => CopyMem_any ma mc ws0 W (by omega) (HMA.out.below hb))
    go_wp2_with fail
    refine (HCP.out _ (by repeat' (first | (with_reducible exact Below.refl _ _) | (with_reducible (refine Below.setCell ?_ ?_ _)) | (with_reducible (refine Below.alloc ?_ ?_ _)) | (with_reducible (refine Below.drew ?_)) | (with_reducible (refine below_via ?_ HB1.out ?_)) | omega | (simp; done) | (simp; omega)))).mono ?_
    rintro e w2 ⟨Am, cm, rfl, hown, hb2⟩
    have hs2 := hb2.size
    try simp at hs2
    have hc2_0 := fun o => (bcell hb2).1 (w.heap.size) o (by first | omega | (simp; done) | (simp; omega))
    have hf2_0 := fun o => (bcell hb2).2.1 (w.heap.size) o (by first | omega | (simp; done) | (simp; omega))
    have hz2_0 := (bcell hb2).2.2 (w.heap.size) (by first | omega | (simp; done) | (simp; omega))
    have HB2 := Lib.hid hb2
    clear hb2
    have Hhown := Lib.hid hown
    clear hown
    go_wp2_with fail
    have HB := Lib.hid ((by repeat' (first | (with_reducible exact Below.refl _ _) | (with_reducible (refine Below.setCell ?_ ?_ _)) | (with_reducible (refine Below.alloc ?_ ?_ _)) | (with_reducible (refine Below.drew ?_)) | (with_reducible (refine below_via ?_ HB2.out ?_)) | (with_reducible (refine below_via ?_ HB1.out ?_)) | omega | (simp; done) | (simp; omega))) : Below w.heap.size w w2)
    have HX := Lib.hid (show w2.heap[w.heap.size]? = some (.cells #[.slice ma ws0.length mc, .slice la acts.length lc] 27 (0, 0)) from (by repeat (first | (with_reducible assumption) | (with_reducible refine heap_below_is HB2.out (by (first | omega | (simp; done) | (simp; omega))) ?_) | (with_reducible refine heap_below_is HB1.out (by (first | omega | (simp; done) | (simp; omega))) ?_) | (exact heap_at _ _ (by simp; done)) | (with_reducible refine heap_old_is _ _ (by (first | omega | (simp; done) | (simp; omega))) ?_) | (with_reducible refine heap_far_is (by (first | omega | (simp; done) | (simp; omega))) ?_))))
    have hx2 := heap_lt HX.out
    clear hc1 hf1 hz1 hc2_0 hf2_0 hz2_0
    go_loopw [4] (fun i wr => ∃ (k : Nat) (ws : List Int) (Am : Option Addr) (cm : Nat), k ≤ acts.length ∧ k ≤ 15 ∧ i = .int .i64 k ∧ ws.length = ws0.length ∧ (∀ x ∈ ws, isWord x) ∧ wr.heap[w2.heap.size]? = some (.cells #[.slice Am ws0.length cm] memT2 (0, 0)) ∧ At wr Am 1 wordCells ws ∧ ws0.length ≤ cm ∧ Below w2.heap.size w2 wr) (fun i _ => 15 - (intOf i).toNat)
    case atStart => exact ⟨0, ws0, Am, cm, Nat.zero_le _, Nat.zero_le _, rfl, rfl, HMO.out, heap_new _ _, (Hhown.out.at_ word_len).below (by repeat' (first | (with_reducible exact Below.refl _ _) | (with_reducible (refine Below.setCell ?_ ?_ _)) | (with_reducible (refine Below.alloc ?_ ?_ _)) | (with_reducible (refine Below.drew ?_)) | omega | (simp; done) | (simp; omega))), Hhown.out.cap_, (by repeat' (first | (with_reducible exact Below.refl _ _) | (with_reducible (refine Below.setCell ?_ ?_ _)) | (with_reducible (refine Below.alloc ?_ ?_ _)) | (with_reducible (refine Below.drew ?_)) | omega | (simp; done) | (simp; omega)))⟩
    case round =>
      obtain ⟨k, ws, Am, cm, hk, hk15, rfl, hlen, hok, hmx, hmat, hcap, hbw⟩ := hrel
      have HLEN := Lib.hid hlen
      have HOK := Lib.hid hok
      have HMX := Lib.hid hmx
      have HMT := Lib.hid hmat
      have HBW := Lib.hid hbw
      have hml := heap_lt hmx
      have hsw := hbw.size
      clear hlen hok hmx hmat hbw
      by_cases hlt : k < acts.length ∧ k < 15
      · obtain ⟨hlt, hlt15⟩ := hlt
        have HBR := Lib.hid ((by repeat' (first | (with_reducible exact Below.refl _ _) | (with_reducible (refine Below.setCell ?_ ?_ _)) | (with_reducible (refine Below.alloc ?_ ?_ _)) | (with_reducible (refine Below.drew ?_)) | (with_reducible (refine below_via ?_ HBW.out ?_)) | (with_reducible (refine below_via ?_ HB.out ?_)) | omega | (simp; done) | (simp; omega))) : Below w.heap.size w wr)
        have hwr := HBR.out.size
        obtain ⟨ba, oa, rfl, hba, c0, c1, c2, c3, c4⟩ := act_cells HLA.out HBR.out hlt
        have HAA := Lib.hid (HLO.out acts[k] (List.getElem_mem hlt))
        have hl30 := HL3.out acts[k] (List.getElem_mem hlt)
        have hki : (k : Int) < acts.length := by omega
        have hk15i : (k : Int) < 15 := by omega
        have q15 : decide ((k : Int) < 15) = true := by simp; omega
        generalize acts[k] = a at *
        obtain ⟨a0, a1, a2, a3, lad, lcap, l⟩ := a
        dsimp only at c0 c1 c2 c3 c4 hl30
        have HLL := Lib.hid (show At wr lad 1 intCells l from HAA.out.2.2.2.2.2.1.below HBR.out)
        have HRM := Lib.hid (fun W => refMem_any Am ws0.length cm W (by omega))
        have HCM := Lib.hid (fun W (hb : Below wr.heap.size wr W) => CopyMem_any Am cm ws W (by rw [HLEN.out]; omega) (HMT.out.below hb))
        rw [HLEN.out] at HCM
        have e0 := cell_of_row _ _ 0 _ _ _ (heap_below_is HBW.out hx2 HX.out)
        have e1 := cell_of_row _ _ 1 _ _ _ (heap_below_is HBW.out hx2 HX.out)
        have hxl : w.heap.size < wr.heap.size := by omega
        have m0 := cell_of_row _ _ 0 _ _ _ HMX.out
        obtain ⟨g, hg⟩ : ∃ g, memOk ws0.length = g := ⟨_, rfl⟩
        have HG := Lib.hid hg
        rw [hg] at HRM
        have HFF := Lib.hid (fun (A : Option Addr) (c : Nat) W => memFramesF_any A ws0.length c W (by omega) g hg)
        have HCK := Lib.hid (fun (A : Option Addr) (c : Nat) W => memCheck_any A ws0.length c W (by omega) g hg)
        have HRF := Lib.hid (fun W => refFrames_any Am ws0.length cm W (by omega))
        have HWI := Lib.hid (fun W => within_any a0 8 W (by decide) (by decide) HAA.out.1)
        have hdo := within_lt a0 8 (by decide)
        generalize withinOf a0 8 = do_ at *
        obtain ⟨hdo0, hdo8⟩ := hdo
        clear hg
        cases g
        case false =>
          go_wp2_with fail
          refine (HRM.out _).mono ?_
          rintro e w3 ⟨rfl, hb3⟩
          have hs3 := hb3.size
          try simp at hs3
          have hc3_0 := fun o => (bcell hb3).1 (w.heap.size) o (by first | omega | (simp; done) | (simp; omega))
          have hf3_0 := fun o => (bcell hb3).2.1 (w.heap.size) o (by first | omega | (simp; done) | (simp; omega))
          have hz3_0 := (bcell hb3).2.2 (w.heap.size) (by first | omega | (simp; done) | (simp; omega))
          have hc3_1 := fun o => (bcell hb3).1 (w2.heap.size) o (by first | omega | (simp; done) | (simp; omega))
          have hf3_1 := fun o => (bcell hb3).2.1 (w2.heap.size) o (by first | omega | (simp; done) | (simp; omega))
          have hz3_1 := (bcell hb3).2.2 (w2.heap.size) (by first | omega | (simp; done) | (simp; omega))
          have hc3_2 := fun o => (bcell hb3).1 (wr.heap.size) o (by first | omega | (simp; done) | (simp; omega))
          have hf3_2 := fun o => (bcell hb3).2.1 (wr.heap.size) o (by first | omega | (simp; done) | (simp; omega))
          have hz3_2 := (bcell hb3).2.2 (wr.heap.size) (by first | omega | (simp; done) | (simp; omega))
          have HB3 := Lib.hid hb3
          clear hb3
          go_wp2_with fail
          refine (HCM.out _ (by repeat' (first | (with_reducible exact Below.refl _ _) | (with_reducible (refine Below.setCell ?_ ?_ _)) | (with_reducible (refine Below.alloc ?_ ?_ _)) | (with_reducible (refine Below.drew ?_)) | (with_reducible (refine below_via ?_ HB3.out ?_)) | omega | (simp; done) | (simp; omega)))).mono ?_
          rintro e w4 ⟨Ai, ci, rfl, hown4, hb4⟩
          have hs4 := hb4.size
          try simp at hs4
          have hc4_0 := fun o => (bcell hb4).1 (w.heap.size) o (by first | omega | (simp; done) | (simp; omega))
          have hf4_0 := fun o => (bcell hb4).2.1 (w.heap.size) o (by first | omega | (simp; done) | (simp; omega))
          have hz4_0 := (bcell hb4).2.2 (w.heap.size) (by first | omega | (simp; done) | (simp; omega))
          have hc4_1 := fun o => (bcell hb4).1 (w2.heap.size) o (by first | omega | (simp; done) | (simp; omega))
          have hf4_1 := fun o => (bcell hb4).2.1 (w2.heap.size) o (by first | omega | (simp; done) | (simp; omega))
          have hz4_1 := (bcell hb4).2.2 (w2.heap.size) (by first | omega | (simp; done) | (simp; omega))
          have hc4_2 := fun o => (bcell hb4).1 (wr.heap.size) o (by first | omega | (simp; done) | (simp; omega))
          have hf4_2 := fun o => (bcell hb4).2.1 (wr.heap.size) o (by first | omega | (simp; done) | (simp; omega))
          have hz4_2 := (bcell hb4).2.2 (wr.heap.size) (by first | omega | (simp; done) | (simp; omega))
          have HB4 := Lib.hid hb4
          clear hb4
          have Hhown4 := Lib.hid hown4
          clear hown4
          go_wp2_with fail
          refine (HFF.out Ai ci _).mono ?_
          rintro e w5 ⟨rfl, hb5⟩
          have hs5 := hb5.size
          try simp at hs5
          have hc5_0 := fun o => (bcell hb5).1 (w.heap.size) o (by first | omega | (simp; done) | (simp; omega))
          have hf5_0 := fun o => (bcell hb5).2.1 (w.heap.size) o (by first | omega | (simp; done) | (simp; omega))
          have hz5_0 := (bcell hb5).2.2 (w.heap.size) (by first | omega | (simp; done) | (simp; omega))
          have hc5_1 := fun o => (bcell hb5).1 (w2.heap.size) o (by first | omega | (simp; done) | (simp; omega))
          have hf5_1 := fun o => (bcell hb5).2.1 (w2.heap.size) o (by first | omega | (simp; done) | (simp; omega))
          have hz5_1 := (bcell hb5).2.2 (w2.heap.size) (by first | omega | (simp; done) | (simp; omega))
          have hc5_2 := fun o => (bcell hb5).1 (wr.heap.size) o (by first | omega | (simp; done) | (simp; omega))
          have hf5_2 := fun o => (bcell hb5).2.1 (wr.heap.size) o (by first | omega | (simp; done) | (simp; omega))
          have hz5_2 := (bcell hb5).2.2 (wr.heap.size) (by first | omega | (simp; done) | (simp; omega))
          have hc5_3 := fun o => (bcell hb5).1 (w4.heap.size) o (by first | omega | (simp; done) | (simp; omega))
          have hf5_3 := fun o => (bcell hb5).2.1 (w4.heap.size) o (by first | omega | (simp; done) | (simp; omega))
          have hz5_3 := (bcell hb5).2.2 (w4.heap.size) (by first | omega | (simp; done) | (simp; omega))
          have HB5 := Lib.hid hb5
          clear hb5
          go_wp2_with fail
          refine (HCK.out Ai ci _).mono ?_
          rintro e w6 ⟨rfl, hb6⟩
          have hs6 := hb6.size
          try simp at hs6
          have hc6_0 := fun o => (bcell hb6).1 (w.heap.size) o (by first | omega | (simp; done) | (simp; omega))
          have hf6_0 := fun o => (bcell hb6).2.1 (w.heap.size) o (by first | omega | (simp; done) | (simp; omega))
          have hz6_0 := (bcell hb6).2.2 (w.heap.size) (by first | omega | (simp; done) | (simp; omega))
          have hc6_1 := fun o => (bcell hb6).1 (w2.heap.size) o (by first | omega | (simp; done) | (simp; omega))
          have hf6_1 := fun o => (bcell hb6).2.1 (w2.heap.size) o (by first | omega | (simp; done) | (simp; omega))
          have hz6_1 := (bcell hb6).2.2 (w2.heap.size) (by first | omega | (simp; done) | (simp; omega))
          have hc6_2 := fun o => (bcell hb6).1 (wr.heap.size) o (by first | omega | (simp; done) | (simp; omega))
          have hf6_2 := fun o => (bcell hb6).2.1 (wr.heap.size) o (by first | omega | (simp; done) | (simp; omega))
          have hz6_2 := (bcell hb6).2.2 (wr.heap.size) (by first | omega | (simp; done) | (simp; omega))
          have hc6_3 := fun o => (bcell hb6).1 (w4.heap.size) o (by first | omega | (simp; done) | (simp; omega))
          have hf6_3 := fun o => (bcell hb6).2.1 (w4.heap.size) o (by first | omega | (simp; done) | (simp; omega))
          have hz6_3 := (bcell hb6).2.2 (w4.heap.size) (by first | omega | (simp; done) | (simp; omega))
          have HB6 := Lib.hid hb6
          clear hb6
          have HB6' := Lib.hid ((by repeat' (first | (with_reducible exact Below.refl _ _) | (with_reducible (refine Below.setCell ?_ ?_ _)) | (with_reducible (refine Below.alloc ?_ ?_ _)) | (with_reducible (refine Below.drew ?_)) | (with_reducible (refine below_via ?_ HB6.out ?_)) | (with_reducible (refine below_via ?_ HB5.out ?_)) | (with_reducible (refine below_via ?_ HB4.out ?_)) | (with_reducible (refine below_via ?_ HB3.out ?_)) | omega | (simp; done) | (simp; omega))) : Below wr.heap.size wr w6)
          go_upto_region 12 with (first | (go_at_call 11; refine (HNU.out _ _).mono ?_; rintro e w' ⟨rfl, rfl⟩) | (go_at_call 24; refine (HRF.out _).mono ?_; rintro e w7 ⟨rfl, hb7⟩; have hs7 := hb7.size; (try simp at hs7); have HB7 := Lib.hid hb7; clear hb7))
          refine (HWI.out _).mono ?_
          rintro e w' ⟨rfl, rfl⟩
          go_upto_block 2 with (fail)
          obtain ⟨wb, hwb⟩ : ∃ wb, wb = (w6.alloc (.cells #[.slice none 0 0] 24)).alloc (.cells #[.slice none 0 0] 24) := ⟨_, rfl⟩
          have HBB := Lib.hid (show Below w6.heap.size w6 wb by rw [hwb]; exact (by repeat' (first | (with_reducible exact Below.refl _ _) | (with_reducible (refine Below.setCell ?_ ?_ _)) | (with_reducible (refine Below.alloc ?_ ?_ _)) | (with_reducible (refine Below.drew ?_)) | omega | (simp; done) | (simp; omega))))
          have hsb1 : w6.heap.size + 2 ≤ wb.heap.size := by rw [hwb]; simp
          have hsb2 : wb.heap.size ≤ w6.heap.size + 2 := by rw [hwb]; simp
          have HYI := Lib.hid (show wb.heap[w4.heap.size]? = some (.cells #[.slice Ai ws0.length ci] memT2 (0, 0)) from (by repeat (first | (with_reducible assumption) | (with_reducible refine heap_below_is HBB.out (by (first | omega | (simp; done) | (simp; omega))) ?_) | (with_reducible refine heap_below_is HB6.out (by (first | omega | (simp; done) | (simp; omega))) ?_) | (with_reducible refine heap_below_is HB5.out (by (first | omega | (simp; done) | (simp; omega))) ?_) | (exact heap_at _ _ (by simp; done)) | (with_reducible refine heap_old_is _ _ (by (first | omega | (simp; done) | (simp; omega))) ?_) | (with_reducible refine heap_far_is (by (first | omega | (simp; done) | (simp; omega))) ?_))))
          have HYM := Lib.hid (show wb.heap[w2.heap.size]? = some (.cells #[.slice Am ws0.length cm] memT2 (0, 0)) from (by repeat (first | (with_reducible assumption) | (with_reducible exact HMX.out) | (with_reducible refine heap_below_is HBB.out (by (first | omega | (simp; done) | (simp; omega))) ?_) | (with_reducible refine heap_below_is HB6.out (by (first | omega | (simp; done) | (simp; omega))) ?_) | (with_reducible refine heap_below_is HB5.out (by (first | omega | (simp; done) | (simp; omega))) ?_) | (with_reducible refine heap_below_is HB4.out (by (first | omega | (simp; done) | (simp; omega))) ?_) | (with_reducible refine heap_below_is HB3.out (by (first | omega | (simp; done) | (simp; omega))) ?_) | (exact heap_at _ _ (by simp; done)) | (with_reducible refine heap_old_is _ _ (by (first | omega | (simp; done) | (simp; omega))) ?_) | (with_reducible refine heap_far_is (by (first | omega | (simp; done) | (simp; omega))) ?_))))
          have HYW := Lib.hid (show wb.heap[w6.heap.size]? = some (.cells #[.slice none 0 0] memT2 (0, 0)) by rw [hwb]; exact (heap_old _ _ (by simp)).trans (heap_new _ _))
          have HYX := Lib.hid (show wb.heap[w6.heap.size + 1]? = some (.cells #[.slice none 0 0] memT2 (0, 0)) by rw [hwb]; exact heap_at _ _ (by simp))
          have HYA := Lib.hid (show wb.heap[wr.heap.size]? = some (.cells #[.int .i64 a0, .int .i64 a1, .int .i64 a2, .int .u64 a3, .slice lad l.length lcap] actT (0, 0)) from (by repeat (first | (with_reducible assumption) | (with_reducible refine heap_below_is HBB.out (by (first | omega | (simp; done) | (simp; omega))) ?_) | (with_reducible refine heap_below_is HB6.out (by (first | omega | (simp; done) | (simp; omega))) ?_) | (with_reducible refine heap_below_is HB5.out (by (first | omega | (simp; done) | (simp; omega))) ?_) | (with_reducible refine heap_below_is HB4.out (by (first | omega | (simp; done) | (simp; omega))) ?_) | (with_reducible refine heap_below_is HB3.out (by (first | omega | (simp; done) | (simp; omega))) ?_) | (exact heap_at _ _ (by simp; done)) | (with_reducible refine heap_old_is _ _ (by (first | omega | (simp; done) | (simp; omega))) ?_) | (with_reducible refine heap_far_is (by (first | omega | (simp; done) | (simp; omega))) ?_))))
          have HCI := Lib.hid (show ws0.length ≤ ci from by have := Hhown4.out.cap_; rwa [HLEN.out] at this)
          have HTI6 := Lib.hid (show At w6 Ai 1 wordCells ws from ((((Hhown4.out.alloc _).below HB5.out (by simp)).below HB6.out (by omega)).at_ word_len))
          have HTL6 := Lib.hid (show At w6 lad 1 intCells l from HLL.out.below HB6'.out)
          have HTM6 := Lib.hid (show At w6 Am 1 wordCells ws from HMT.out.below HB6'.out)
          have HTI := Lib.hid (show At wb Ai 1 wordCells ws from ((((Hhown4.out.alloc _).below HB5.out (by simp)).below HB6.out (by omega)).at_ word_len).below HBB.out)
          have HTM := Lib.hid (show At wb Am 1 wordCells ws from HMT.out.below (by repeat' (first | (with_reducible exact Below.refl _ _) | (with_reducible (refine Below.setCell ?_ ?_ _)) | (with_reducible (refine Below.alloc ?_ ?_ _)) | (with_reducible (refine Below.drew ?_)) | (with_reducible (refine below_via ?_ HBB.out ?_)) | (with_reducible (refine below_via ?_ HB6'.out ?_)) | omega | (simp; done) | (simp; omega))))
          have HTL := Lib.hid (show At wb lad 1 intCells l from HLL.out.below (by repeat' (first | (with_reducible exact Below.refl _ _) | (with_reducible (refine Below.setCell ?_ ?_ _)) | (with_reducible (refine Below.alloc ?_ ?_ _)) | (with_reducible (refine Below.drew ?_)) | (with_reducible (refine below_via ?_ HBB.out ?_)) | (with_reducible (refine below_via ?_ HB6'.out ?_)) | omega | (simp; done) | (simp; omega))))
          have HBR2 := Lib.hid (show Below wr.heap.size wr wb from (by repeat' (first | (with_reducible exact Below.refl _ _) | (with_reducible (refine Below.setCell ?_ ?_ _)) | (with_reducible (refine Below.alloc ?_ ?_ _)) | (with_reducible (refine Below.drew ?_)) | (with_reducible (refine below_via ?_ HBB.out ?_)) | (with_reducible (refine below_via ?_ HB6'.out ?_)) | omega | (simp; done) | (simp; omega))))
          rw [← hwb]
          clear hwb hc3_0 hf3_0 hz3_0 hc3_1 hf3_1 hz3_1 hc3_2 hf3_2 hz3_2 hc4_0 hf4_0 hz4_0 hc4_1 hf4_1 hz4_1 hc4_2 hf4_2 hz4_2 hc5_0 hf5_0 hz5_0 hc5_1 hf5_1 hz5_1 hc5_2 hf5_2 hz5_2 hc5_3 hf5_3 hz5_3 hc6_0 hf6_0 hz6_0 hc6_1 hf6_1 hz6_1 hc6_2 hf6_2 hz6_2 hc6_3 hf6_3 hz6_3 e0 e1 m0 c0 c1 c2 c3 c4
          have i0 := cell_of_row _ _ 0 _ _ _ HYI.out
          have m0 := cell_of_row _ _ 0 _ _ _ HYM.out
          have x0 := cell_of_row _ _ 0 _ _ _ HYX.out
          have y0 := cell_of_row _ _ 0 _ _ _ HYW.out
          have p0 := cell_of_row _ _ 0 _ _ _ HYA.out
          have p1 := cell_of_row _ _ 1 _ _ _ HYA.out
          have p2 := cell_of_row _ _ 2 _ _ _ HYA.out
          have p3 := cell_of_row _ _ 3 _ _ _ HYA.out
          have p4 := cell_of_row _ _ 4 _ _ _ HYA.out
          have xf := frozen_of_row _ _ 0 _ _ HYX.out
          have yf := frozen_of_row _ _ 0 _ _ HYW.out
          have hn1 : ¬ w4.heap.size = wb.heap.size := by omega
          have hn2 : ¬ w2.heap.size = wb.heap.size := by omega
          have hn3 : ¬ w6.heap.size = wb.heap.size := by omega
          have hn4 : ¬ w6.heap.size + 1 = wb.heap.size := by omega
          have hn5 : ¬ wr.heap.size = wb.heap.size := by omega
          have hq1 : w4.heap.size < wb.heap.size := by omega
          have hq2 : w2.heap.size < wb.heap.size := by omega
          have hq3 : w6.heap.size < wb.heap.size := by omega
          have hq4 : w6.heap.size + 1 < wb.heap.size := by omega
          have hq5 : wr.heap.size < wb.heap.size := by omega
          go_cut [10, 13] (fun s10 s13 wc => Asked ws0.length do_ wb (w6.heap.size + 1) w6.heap.size s13 s10 wc)
          case first =>
            rcases (show do_ = 4 ∨ do_ = 5 ∨ do_ = 6 ∨ do_ = 7 ∨ (do_ ≠ 4 ∧ do_ ≠ 5 ∧ do_ ≠ 6 ∧ do_ ≠ 7) by omega) with rfl | rfl | rfl | rfl | ⟨h4, h5, h6, h7⟩
            · as_aux_lemma =>
              have HC := Lib.hid (fun W => read_no Ai ws0.length ci a1 a2 1 W (by omega) HAA.out.2.1 (by rw [HG.out]; rfl) (by decide))
              go_wp2_with fail
              refine (HC.out _).mono ?_
              rintro e w8 ⟨rfl, hb8⟩
              have hs8 := hb8.size
              try simp at hs8
              have HB8 := Lib.hid hb8
              clear hb8
              go_wp2
              go_meet
              exact asked_no (by repeat (first | (with_reducible assumption) | (with_reducible exact HYW.out) | (with_reducible refine heap_below_is HB8.out (by (first | omega | (simp; done) | (simp; omega))) ?_) | (exact heap_at _ _ (by simp; done)) | (with_reducible refine heap_old_is _ _ (by (first | omega | (simp; done) | (simp; omega))) ?_) | (with_reducible refine heap_far_is (by (first | omega | (simp; done) | (simp; omega))) ?_))) (by repeat (first | (with_reducible assumption) | (with_reducible exact HYX.out) | (with_reducible refine heap_below_is HB8.out (by (first | omega | (simp; done) | (simp; omega))) ?_) | (exact heap_at _ _ (by simp; done)) | (with_reducible refine heap_old_is _ _ (by (first | omega | (simp; done) | (simp; omega))) ?_) | (with_reducible refine heap_far_is (by (first | omega | (simp; done) | (simp; omega))) ?_))) (by omega) (by repeat' (first | (with_reducible exact Below.refl _ _) | (with_reducible (refine Below.setCell ?_ ?_ _)) | (with_reducible (refine Below.alloc ?_ ?_ _)) | (with_reducible (refine Below.drew ?_)) | (with_reducible (refine below_via ?_ HB8.out ?_)) | omega | (simp; done) | (simp; omega))) (.inr (.inl rfl))
            · as_aux_lemma =>
              have HC := Lib.hid (fun W (hb : Below wb.heap.size wb W) => Zero_no Ai lad ci lcap ws0.length l W (by omega) (by omega) (HTL.out.below hb) (by rw [askOf, HG.out, if_neg (by decide)]; decide))
              rw [show askOf ws0.length l = 1 by rw [askOf, HG.out]; rfl] at HC
              go_wp2_with fail
              refine (HC.out _ (by repeat' (first | (with_reducible exact Below.refl _ _) | (with_reducible (refine Below.setCell ?_ ?_ _)) | (with_reducible (refine Below.alloc ?_ ?_ _)) | (with_reducible (refine Below.drew ?_)) | omega | (simp; done) | (simp; omega)))).mono ?_
              rintro e w8 ⟨rfl, hb8⟩
              have hs8 := hb8.size
              try simp at hs8
              have hc8_0 := fun o => (bcell hb8).1 (w6.heap.size + 1) o (by first | omega | (simp; done) | (simp; omega))
              have hf8_0 := fun o => (bcell hb8).2.1 (w6.heap.size + 1) o (by first | omega | (simp; done) | (simp; omega))
              have hz8_0 := (bcell hb8).2.2 (w6.heap.size + 1) (by first | omega | (simp; done) | (simp; omega))
              have HB8 := Lib.hid hb8
              clear hb8
              go_wp2
              go_meet
              exact asked_no (by repeat (first | (with_reducible assumption) | (with_reducible exact HYW.out) | (with_reducible refine heap_below_is HB8.out (by (first | omega | (simp; done) | (simp; omega))) ?_) | (exact heap_at _ _ (by simp; done)) | (with_reducible refine heap_old_is _ _ (by (first | omega | (simp; done) | (simp; omega))) ?_) | (with_reducible refine heap_far_is (by (first | omega | (simp; done) | (simp; omega))) ?_))) (by exact (heap_set_same (heap_below_is HB8.out hq4 HYX.out) 0 _).trans rfl) (by simp; omega) (by repeat' (first | (with_reducible exact Below.refl _ _) | (with_reducible (refine Below.setCell ?_ ?_ _)) | (with_reducible (refine Below.alloc ?_ ?_ _)) | (with_reducible (refine Below.drew ?_)) | (with_reducible (refine below_via ?_ HB8.out ?_)) | omega | (simp; done) | (simp; omega))) (.inl (by decide))
            · as_aux_lemma =>
              have HC := Lib.hid (fun W => Copy_no Ai ci ws0.length a1 a2 W (by omega) (by rw [askOf, HG.out, if_neg (by decide)]; decide))
              rw [show askOf ws0.length [a1, a2] = 1 by rw [askOf, HG.out]; rfl] at HC
              go_wp2_with fail
              refine (HC.out _).mono ?_
              rintro e w8 ⟨rfl, hb8⟩
              have hs8 := hb8.size
              try simp at hs8
              have hc8_0 := fun o => (bcell hb8).1 (w6.heap.size + 1) o (by first | omega | (simp; done) | (simp; omega))
              have hf8_0 := fun o => (bcell hb8).2.1 (w6.heap.size + 1) o (by first | omega | (simp; done) | (simp; omega))
              have hz8_0 := (bcell hb8).2.2 (w6.heap.size + 1) (by first | omega | (simp; done) | (simp; omega))
              have HB8 := Lib.hid hb8
              clear hb8
              go_wp2
              go_meet
              exact asked_no (by repeat (first | (with_reducible assumption) | (with_reducible exact HYW.out) | (with_reducible refine heap_below_is HB8.out (by (first | omega | (simp; done) | (simp; omega))) ?_) | (exact heap_at _ _ (by simp; done)) | (with_reducible refine heap_old_is _ _ (by (first | omega | (simp; done) | (simp; omega))) ?_) | (with_reducible refine heap_far_is (by (first | omega | (simp; done) | (simp; omega))) ?_))) (by exact (heap_set_same (heap_below_is HB8.out hq4 HYX.out) 0 _).trans rfl) (by simp; omega) (by repeat' (first | (with_reducible exact Below.refl _ _) | (with_reducible (refine Below.setCell ?_ ?_ _)) | (with_reducible (refine Below.alloc ?_ ?_ _)) | (with_reducible (refine Below.drew ?_)) | (with_reducible (refine below_via ?_ HB8.out ?_)) | omega | (simp; done) | (simp; omega))) (.inl (by decide))
            · as_aux_lemma =>
              have HC := Lib.hid (fun W => Frame_no Ai ci ws0.length a1 W (by omega) (by rw [askOf, HG.out, if_neg (by decide)]; decide))
              rw [show askOf ws0.length [a1] = 1 by rw [askOf, HG.out]; rfl] at HC
              have HE := Lib.hid (fun W => EqWords_any none none 0 0 [] [] W (by simp) (by simp) At.nil At.nil)
              have HWo := Lib.hid (fun (W : World) => Words_any none 0 W.heap.size [] W (by simp) (Nat.le_refl _) (World.ownsRow_nil _ _ _ _))
              go_wp2_with fail
              refine (HC.out _).mono ?_
              rintro e w8 ⟨rfl, hb8⟩
              have hs8 := hb8.size
              try simp at hs8
              have HB8 := Lib.hid hb8
              clear hb8
              go_wp2_with fail
              refine (HE.out _).mono ?_
              rintro e w9 ⟨rfl, hb9⟩
              have hs9 := hb9.size
              try simp at hs9
              have HB9 := Lib.hid hb9
              clear hb9
              go_wp2_with fail
              refine (HWo.out _).mono ?_
              rintro e w10 ⟨rfl, hb10⟩
              have hs10 := hb10.size
              try simp at hs10
              have HB10 := Lib.hid hb10
              clear hb10
              go_wp2
              go_meet
              exact asked_no (by repeat (first | (with_reducible assumption) | (with_reducible exact HYW.out) | (with_reducible refine heap_below_is HB10.out (by (first | omega | (simp; done) | (simp; omega))) ?_) | (with_reducible refine heap_below_is HB9.out (by (first | omega | (simp; done) | (simp; omega))) ?_) | (with_reducible refine heap_below_is HB8.out (by (first | omega | (simp; done) | (simp; omega))) ?_) | (exact heap_at _ _ (by simp; done)) | (with_reducible refine heap_old_is _ _ (by (first | omega | (simp; done) | (simp; omega))) ?_) | (with_reducible refine heap_far_is (by (first | omega | (simp; done) | (simp; omega))) ?_))) (by repeat (first | (with_reducible assumption) | (with_reducible exact HYX.out) | (with_reducible refine heap_below_is HB10.out (by (first | omega | (simp; done) | (simp; omega))) ?_) | (with_reducible refine heap_below_is HB9.out (by (first | omega | (simp; done) | (simp; omega))) ?_) | (with_reducible refine heap_below_is HB8.out (by (first | omega | (simp; done) | (simp; omega))) ?_) | (exact heap_at _ _ (by simp; done)) | (with_reducible refine heap_old_is _ _ (by (first | omega | (simp; done) | (simp; omega))) ?_) | (with_reducible refine heap_far_is (by (first | omega | (simp; done) | (simp; omega))) ?_))) (by omega) (by repeat' (first | (with_reducible exact Below.refl _ _) | (with_reducible (refine Below.setCell ?_ ?_ _)) | (with_reducible (refine Below.alloc ?_ ?_ _)) | (with_reducible (refine Below.drew ?_)) | (with_reducible (refine below_via ?_ HB10.out ?_)) | (with_reducible (refine below_via ?_ HB9.out ?_)) | (with_reducible (refine below_via ?_ HB8.out ?_)) | omega | (simp; done) | (simp; omega))) (.inr (.inr rfl))
            · as_aux_lemma =>
              have q4 : (do_ == 4) = false := by simp [h4]
              have q5 : (do_ == 5) = false := by simp [h5]
              have q6 : (do_ == 6) = false := by simp [h6]
              have q7 : (do_ == 7) = false := by simp [h7]
              have HC := Lib.hid (fun W => write_no Ai ws0.length ci a1 a2 a3 1 W (by omega) HAA.out.2.1 (by rw [HG.out]; rfl) (by decide))
              clear h4 h5 h6 h7
              go_wp2_with fail
              refine (HC.out _).mono ?_
              rintro e w8 ⟨rfl, hb8⟩
              have hs8 := hb8.size
              try simp at hs8
              have hc8_0 := fun o => (bcell hb8).1 (w6.heap.size + 1) o (by first | omega | (simp; done) | (simp; omega))
              have hf8_0 := fun o => (bcell hb8).2.1 (w6.heap.size + 1) o (by first | omega | (simp; done) | (simp; omega))
              have hz8_0 := (bcell hb8).2.2 (w6.heap.size + 1) (by first | omega | (simp; done) | (simp; omega))
              have HB8 := Lib.hid hb8
              clear hb8
              go_wp2
              go_meet
              exact asked_no (by repeat (first | (with_reducible assumption) | (with_reducible exact HYW.out) | (with_reducible refine heap_below_is HB8.out (by (first | omega | (simp; done) | (simp; omega))) ?_) | (exact heap_at _ _ (by simp; done)) | (with_reducible refine heap_old_is _ _ (by (first | omega | (simp; done) | (simp; omega))) ?_) | (with_reducible refine heap_far_is (by (first | omega | (simp; done) | (simp; omega))) ?_))) (by exact (heap_set_same (heap_below_is HB8.out hq4 HYX.out) 0 _).trans rfl) (by simp; omega) (by repeat' (first | (with_reducible exact Below.refl _ _) | (with_reducible (refine Below.setCell ?_ ?_ _)) | (with_reducible (refine Below.alloc ?_ ?_ _)) | (with_reducible (refine Below.drew ?_)) | (with_reducible (refine below_via ?_ HB8.out ?_)) | omega | (simp; done) | (simp; omega))) (.inl (by decide))
          case rest => as_aux_lemma =>
            obtain ⟨bad, wl, Aw, Ax, cw, cx, B, rfl, rfl, hwn, hwy, hwx, hwat, hown, hB1, hB2, hbl, hfin⟩ := hcut
            have HCI := Lib.hid (heap_below_is hbl (show w4.heap.size < w6.heap.size by omega) HYI.out)
            have HCM2 := Lib.hid (heap_below_is hbl (show w2.heap.size < w6.heap.size by omega) HYM.out)
            have HCW := Lib.hid hwy
            have HCX := Lib.hid hwx
            have HWAT := Lib.hid hwat
            have HOWN := Lib.hid hown
            have HBL := Lib.hid hbl
            have HFIN := Lib.hid hfin
            have hsc := hbl.size
            have HEX := Lib.hid (fun W (hb : Below wc.heap.size wc W) => EqMem_any Ax Aw cx cw wl wl W (by omega) (by omega) ((HOWN.out.at_ word_len).below hb) ((HWAT.out _ (Below.refl _ _)).below hb))
            rw [show decide (wl = wl) = true by simp] at HEX
            have HEI := Lib.hid (fun W (hb : Below w6.heap.size w6 W) => EqMem_any Ai Am ci cm ws ws W (by rw [HLEN.out]; omega) (by rw [HLEN.out]; omega) (HTI6.out.below hb) (HTM6.out.below hb))
            rw [HLEN.out, show decide (ws = ws) = true by simp] at HEI
            have HWo := Lib.hid (fun W (hb : Below wc.heap.size wc W) => Words_any Ax cx B wl W (by omega) (Nat.le_trans hB2 hb.size) (HOWN.out.below hb (Nat.le_refl _)))
            clear hwy hwx hwat hown hbl hfin i0 m0 x0 y0 p0 p1 p2 p3 p4 xf yf
            have i0 := cell_of_row _ _ 0 _ _ _ HCI.out
            have m0 := cell_of_row _ _ 0 _ _ _ HCM2.out
            have x0 := cell_of_row _ _ 0 _ _ _ HCX.out
            have y0 := cell_of_row _ _ 0 _ _ _ HCW.out
            have mf := frozen_of_row _ _ 0 _ _ HCM2.out
            have hbb : (bad != bad) = false := by simp
            have b1 : w4.heap.size < B := by omega
            have b2 : w2.heap.size < B := by omega
            have b3 : w6.heap.size < B := by omega
            have b4 : w6.heap.size + 1 < B := by omega
            have r1 : w4.heap.size < wc.heap.size := by omega
            have r2 : w2.heap.size < wc.heap.size := by omega
            have r3 : w6.heap.size < wc.heap.size := by omega
            have r4 : w6.heap.size + 1 < wc.heap.size := by omega
            go_wp2_with (go_at_call 11; refine (HNU.out _ _).mono ?_; rintro e w' ⟨rfl, rfl⟩)
            refine (HEX.out _ (by repeat' (first | (with_reducible exact Below.refl _ _) | (with_reducible (refine Below.setCell ?_ ?_ _)) | (with_reducible (refine Below.alloc ?_ ?_ _)) | (with_reducible (refine Below.drew ?_)) | omega | (simp; done) | (simp; omega)))).mono ?_
            rintro e w9 ⟨rfl, hb9⟩
            have hs9 := hb9.size
            try simp at hs9
            have hc9_0 := fun o => (bcell hb9).1 (w4.heap.size) o (by first | omega | (simp; done) | (simp; omega))
            have hf9_0 := fun o => (bcell hb9).2.1 (w4.heap.size) o (by first | omega | (simp; done) | (simp; omega))
            have hz9_0 := (bcell hb9).2.2 (w4.heap.size) (by first | omega | (simp; done) | (simp; omega))
            have hc9_1 := fun o => (bcell hb9).1 (w2.heap.size) o (by first | omega | (simp; done) | (simp; omega))
            have hf9_1 := fun o => (bcell hb9).2.1 (w2.heap.size) o (by first | omega | (simp; done) | (simp; omega))
            have hz9_1 := (bcell hb9).2.2 (w2.heap.size) (by first | omega | (simp; done) | (simp; omega))
            have hc9_2 := fun o => (bcell hb9).1 (w6.heap.size) o (by first | omega | (simp; done) | (simp; omega))
            have hf9_2 := fun o => (bcell hb9).2.1 (w6.heap.size) o (by first | omega | (simp; done) | (simp; omega))
            have hz9_2 := (bcell hb9).2.2 (w6.heap.size) (by first | omega | (simp; done) | (simp; omega))
            have hc9_3 := fun o => (bcell hb9).1 (w6.heap.size + 1) o (by first | omega | (simp; done) | (simp; omega))
            have hf9_3 := fun o => (bcell hb9).2.1 (w6.heap.size + 1) o (by first | omega | (simp; done) | (simp; omega))
            have hz9_3 := (bcell hb9).2.2 (w6.heap.size + 1) (by first | omega | (simp; done) | (simp; omega))
            have HB9 := Lib.hid hb9
            clear hb9
            go_wp2_with fail
            refine (HEI.out _ (by repeat' (first | (with_reducible exact Below.refl _ _) | (with_reducible (refine Below.setCell ?_ ?_ _)) | (with_reducible (refine Below.alloc ?_ ?_ _)) | (with_reducible (refine Below.drew ?_)) | (with_reducible (refine below_via ?_ HB9.out ?_)) | (with_reducible (refine below_via ?_ HBL.out ?_)) | (with_reducible (refine below_via ?_ HBB.out ?_)) | omega | (simp; done) | (simp; omega)))).mono ?_
            rintro e w10 ⟨rfl, hb10⟩
            have hs10 := hb10.size
            try simp at hs10
            have hc10_0 := fun o => (bcell hb10).1 (w4.heap.size) o (by first | omega | (simp; done) | (simp; omega))
            have hf10_0 := fun o => (bcell hb10).2.1 (w4.heap.size) o (by first | omega | (simp; done) | (simp; omega))
            have hz10_0 := (bcell hb10).2.2 (w4.heap.size) (by first | omega | (simp; done) | (simp; omega))
            have hc10_1 := fun o => (bcell hb10).1 (w2.heap.size) o (by first | omega | (simp; done) | (simp; omega))
            have hf10_1 := fun o => (bcell hb10).2.1 (w2.heap.size) o (by first | omega | (simp; done) | (simp; omega))
            have hz10_1 := (bcell hb10).2.2 (w2.heap.size) (by first | omega | (simp; done) | (simp; omega))
            have hc10_2 := fun o => (bcell hb10).1 (w6.heap.size) o (by first | omega | (simp; done) | (simp; omega))
            have hf10_2 := fun o => (bcell hb10).2.1 (w6.heap.size) o (by first | omega | (simp; done) | (simp; omega))
            have hz10_2 := (bcell hb10).2.2 (w6.heap.size) (by first | omega | (simp; done) | (simp; omega))
            have hc10_3 := fun o => (bcell hb10).1 (w6.heap.size + 1) o (by first | omega | (simp; done) | (simp; omega))
            have hf10_3 := fun o => (bcell hb10).2.1 (w6.heap.size + 1) o (by first | omega | (simp; done) | (simp; omega))
            have hz10_3 := (bcell hb10).2.2 (w6.heap.size + 1) (by first | omega | (simp; done) | (simp; omega))
            have HB10 := Lib.hid hb10
            clear hb10
            go_wp2_with fail
            refine (HWo.out _ (by repeat' (first | (with_reducible exact Below.refl _ _) | (with_reducible (refine Below.setCell ?_ ?_ _)) | (with_reducible (refine Below.alloc ?_ ?_ _)) | (with_reducible (refine Below.drew ?_)) | (with_reducible (refine below_via ?_ HB10.out ?_)) | (with_reducible (refine below_via ?_ HB9.out ?_)) | omega | (simp; done) | (simp; omega)))).mono ?_
            rintro e w11 ⟨rfl, hb11⟩
            have hs11 := hb11.size
            try simp at hs11
            have HB11 := Lib.hid hb11
            clear hb11
            have hc11 := fun b o (h : b < B) => HB11.out.cell (p := ⟨b, o, none⟩) h
            have hf11 := fun b o (h : b < B) => HB11.out.frozen (p := ⟨b, o, none⟩) h
            go_wp2_with fail
            refine (HEI.out _ (by repeat' (first | (with_reducible exact Below.refl _ _) | (with_reducible (refine Below.setCell ?_ ?_ _)) | (with_reducible (refine Below.alloc ?_ ?_ _)) | (with_reducible (refine Below.drew ?_)) | (with_reducible (refine below_via ?_ HB11.out ?_)) | (with_reducible (refine below_via ?_ HB10.out ?_)) | (with_reducible (refine below_via ?_ HB9.out ?_)) | (with_reducible (refine below_via ?_ HBL.out ?_)) | (with_reducible (refine below_via ?_ HBB.out ?_)) | omega | (simp; done) | (simp; omega)))).mono ?_
            rintro e w12 ⟨rfl, hb12⟩
            have hs12 := hb12.size
            try simp at hs12
            have HB12 := Lib.hid hb12
            clear hb12
            have HB12' := Lib.hid ((by repeat' (first | (with_reducible exact Below.refl _ _) | (with_reducible (refine Below.setCell ?_ ?_ _)) | (with_reducible (refine Below.alloc ?_ ?_ _)) | (with_reducible (refine Below.drew ?_)) | (with_reducible (refine below_via ?_ HB12.out ?_)) | (with_reducible (refine below_via ?_ HB11.out ?_)) | (with_reducible (refine below_via ?_ HB10.out ?_)) | (with_reducible (refine below_via ?_ HB9.out ?_)) | omega | (simp; done) | (simp; omega))) : Below B wc w12)
            have HBZ := Lib.hid ((by repeat' (first | (with_reducible exact Below.refl _ _) | (with_reducible (refine Below.setCell ?_ ?_ _)) | (with_reducible (refine Below.alloc ?_ ?_ _)) | (with_reducible (refine Below.drew ?_)) | (with_reducible (refine below_via ?_ HB12'.out ?_)) | (with_reducible (refine below_via ?_ HBL.out ?_)) | (with_reducible (refine below_via ?_ HBR2.out ?_)) | (with_reducible (refine below_via ?_ HBW.out ?_)) | omega | (simp; done) | (simp; omega))) : Below w2.heap.size w2 w12)
            have hs12 := HB12'.out.size
            clear hc9_0 hf9_0 hz9_0 hc9_1 hf9_1 hz9_1 hc9_2 hf9_2 hz9_2 hc9_3 hf9_3 hz9_3 hc10_0 hf10_0 hz10_0 hc10_1 hf10_1 hz10_1 hc10_2 hf10_2 hz10_2 hc10_3 hf10_3 hz10_3 hc11 hf11 i0 m0 x0 y0 mf
            have y0 := cell_of_row _ _ 0 _ _ _ (heap_below_is HB12'.out b3 HCW.out)
            have m0 := cell_of_row _ _ 0 _ _ _ (heap_below_is HB12'.out b2 HCM2.out)
            have mf := frozen_of_row _ _ 0 _ _ (heap_below_is HB12'.out b2 HCM2.out)
            have b5 : w2.heap.size < w12.heap.size := by omega
            by_cases hz : bad = 0
            · subst hz
              by_cases hd4 : do_ = 4
              · subst hd4; as_aux_lemma =>
                go_wp2
                go_roundw
                case rel => exact ⟨k + 1, ws, Am, cm, by omega, by omega, by go_num, HLEN.out, HOK.out, heap_below_is HB12'.out b2 HCM2.out, HTM6.out.below (by repeat' (first | (with_reducible exact Below.refl _ _) | (with_reducible (refine Below.setCell ?_ ?_ _)) | (with_reducible (refine Below.alloc ?_ ?_ _)) | (with_reducible (refine Below.drew ?_)) | (with_reducible (refine below_via ?_ HB12'.out ?_)) | (with_reducible (refine below_via ?_ HBL.out ?_)) | (with_reducible (refine below_via ?_ HBB.out ?_)) | omega | (simp; done) | (simp; omega))), hcap, HBZ.out⟩
                case measure => simp [intOf]; omega
              · by_cases hd7 : do_ = 7
                · subst hd7
                  go_wp2
                  go_roundw
                  case rel => exact ⟨k + 1, ws, Am, cm, by omega, by omega, by go_num, HLEN.out, HOK.out, heap_below_is HB12'.out b2 HCM2.out, HTM6.out.below (by repeat' (first | (with_reducible exact Below.refl _ _) | (with_reducible (refine Below.setCell ?_ ?_ _)) | (with_reducible (refine Below.alloc ?_ ?_ _)) | (with_reducible (refine Below.drew ?_)) | (with_reducible (refine below_via ?_ HB12'.out ?_)) | (with_reducible (refine below_via ?_ HBL.out ?_)) | (with_reducible (refine below_via ?_ HBB.out ?_)) | omega | (simp; done) | (simp; omega))), hcap, HBZ.out⟩
                  case measure => simp [intOf]; omega
                · have q4 : (do_ != 4) = true := by simp [hd4]
                  have q7 : (do_ != 7) = true := by simp [hd7]
                  obtain ⟨hwl, hwok⟩ := HFIN.out rfl hd4 hd7
                  have HWL := Lib.hid hwl
                  have HCP3 := Lib.hid (fun W (hb : Below B wc W) => CopyMem_any Aw cw wl W (by omega) (HWAT.out _ hb))
                  clear hwl hd4 hd7
                  go_wp2_with fail
                  refine (HCP3.out _ HB12'.out).mono ?_
                  rintro e w13 ⟨An, cn, rfl, hown13, hb13⟩
                  have hs13 := hb13.size
                  try simp at hs13
                  have hc13_0 := fun o => (bcell hb13).1 (w2.heap.size) o (by first | omega | (simp; done) | (simp; omega))
                  have hf13_0 := fun o => (bcell hb13).2.1 (w2.heap.size) o (by first | omega | (simp; done) | (simp; omega))
                  have hz13_0 := (bcell hb13).2.2 (w2.heap.size) (by first | omega | (simp; done) | (simp; omega))
                  have HB13 := Lib.hid hb13
                  clear hb13
                  have Hhown13 := Lib.hid hown13
                  clear hown13
                  go_wp2
                  go_roundw
                  case rel => exact ⟨k + 1, wl, An, cn, by omega, by omega, by go_num, HWL.out, hwok, by rw [← HWL.out]; exact (heap_set_same (heap_below_is HB13.out b5 (heap_below_is HB12'.out b2 HCM2.out)) 0 _).trans rfl, (Hhown13.out.set_far (by simp; omega) _).at_ word_len, by rw [← HWL.out]; exact Hhown13.out.cap_, (HBZ.out.trans (HB13.out.mono (by omega))).setCell (by simp) _⟩
                  case measure => simp [intOf]; omega
            · have hz0 : (bad == 0) = false := by simp [hz]
              clear hz
              go_wp2
              go_roundw
              case rel => exact ⟨k + 1, ws, Am, cm, by omega, by omega, by go_num, HLEN.out, HOK.out, heap_below_is HB12'.out b2 HCM2.out, HTM6.out.below (by repeat' (first | (with_reducible exact Below.refl _ _) | (with_reducible (refine Below.setCell ?_ ?_ _)) | (with_reducible (refine Below.alloc ?_ ?_ _)) | (with_reducible (refine Below.drew ?_)) | (with_reducible (refine below_via ?_ HB12'.out ?_)) | (with_reducible (refine below_via ?_ HBL.out ?_)) | (with_reducible (refine below_via ?_ HBB.out ?_)) | omega | (simp; done) | (simp; omega))), hcap, HBZ.out⟩
              case measure => simp [intOf]; omega
        case true =>
          go_wp2_with fail
          refine (HRM.out _).mono ?_
          rintro e w3 ⟨rfl, hb3⟩
          have hs3 := hb3.size
          try simp at hs3
          have hc3_0 := fun o => (bcell hb3).1 (w.heap.size) o (by first | omega | (simp; done) | (simp; omega))
          have hf3_0 := fun o => (bcell hb3).2.1 (w.heap.size) o (by first | omega | (simp; done) | (simp; omega))
          have hz3_0 := (bcell hb3).2.2 (w.heap.size) (by first | omega | (simp; done) | (simp; omega))
          have hc3_1 := fun o => (bcell hb3).1 (w2.heap.size) o (by first | omega | (simp; done) | (simp; omega))
          have hf3_1 := fun o => (bcell hb3).2.1 (w2.heap.size) o (by first | omega | (simp; done) | (simp; omega))
          have hz3_1 := (bcell hb3).2.2 (w2.heap.size) (by first | omega | (simp; done) | (simp; omega))
          have hc3_2 := fun o => (bcell hb3).1 (wr.heap.size) o (by first | omega | (simp; done) | (simp; omega))
          have hf3_2 := fun o => (bcell hb3).2.1 (wr.heap.size) o (by first | omega | (simp; done) | (simp; omega))
          have hz3_2 := (bcell hb3).2.2 (wr.heap.size) (by first | omega | (simp; done) | (simp; omega))
          have HB3 := Lib.hid hb3
          clear hb3
          go_wp2_with fail
          refine (HCM.out _ (by repeat' (first | (with_reducible exact Below.refl _ _) | (with_reducible (refine Below.setCell ?_ ?_ _)) | (with_reducible (refine Below.alloc ?_ ?_ _)) | (with_reducible (refine Below.drew ?_)) | (with_reducible (refine below_via ?_ HB3.out ?_)) | omega | (simp; done) | (simp; omega)))).mono ?_
          rintro e w4 ⟨Ai, ci, rfl, hown4, hb4⟩
          have hs4 := hb4.size
          try simp at hs4
          have hc4_0 := fun o => (bcell hb4).1 (w.heap.size) o (by first | omega | (simp; done) | (simp; omega))
          have hf4_0 := fun o => (bcell hb4).2.1 (w.heap.size) o (by first | omega | (simp; done) | (simp; omega))
          have hz4_0 := (bcell hb4).2.2 (w.heap.size) (by first | omega | (simp; done) | (simp; omega))
          have hc4_1 := fun o => (bcell hb4).1 (w2.heap.size) o (by first | omega | (simp; done) | (simp; omega))
          have hf4_1 := fun o => (bcell hb4).2.1 (w2.heap.size) o (by first | omega | (simp; done) | (simp; omega))
          have hz4_1 := (bcell hb4).2.2 (w2.heap.size) (by first | omega | (simp; done) | (simp; omega))
          have hc4_2 := fun o => (bcell hb4).1 (wr.heap.size) o (by first | omega | (simp; done) | (simp; omega))
          have hf4_2 := fun o => (bcell hb4).2.1 (wr.heap.size) o (by first | omega | (simp; done) | (simp; omega))
          have hz4_2 := (bcell hb4).2.2 (wr.heap.size) (by first | omega | (simp; done) | (simp; omega))
          have HB4 := Lib.hid hb4
          clear hb4
          have Hhown4 := Lib.hid hown4
          clear hown4
          go_wp2_with fail
          refine (HFF.out Ai ci _).mono ?_
          rintro e w5 ⟨rfl, hb5⟩
          have hs5 := hb5.size
          try simp at hs5
          have hc5_0 := fun o => (bcell hb5).1 (w.heap.size) o (by first | omega | (simp; done) | (simp; omega))
          have hf5_0 := fun o => (bcell hb5).2.1 (w.heap.size) o (by first | omega | (simp; done) | (simp; omega))
          have hz5_0 := (bcell hb5).2.2 (w.heap.size) (by first | omega | (simp; done) | (simp; omega))
          have hc5_1 := fun o => (bcell hb5).1 (w2.heap.size) o (by first | omega | (simp; done) | (simp; omega))
          have hf5_1 := fun o => (bcell hb5).2.1 (w2.heap.size) o (by first | omega | (simp; done) | (simp; omega))
          have hz5_1 := (bcell hb5).2.2 (w2.heap.size) (by first | omega | (simp; done) | (simp; omega))
          have hc5_2 := fun o => (bcell hb5).1 (wr.heap.size) o (by first | omega | (simp; done) | (simp; omega))
          have hf5_2 := fun o => (bcell hb5).2.1 (wr.heap.size) o (by first | omega | (simp; done) | (simp; omega))
          have hz5_2 := (bcell hb5).2.2 (wr.heap.size) (by first | omega | (simp; done) | (simp; omega))
          have hc5_3 := fun o => (bcell hb5).1 (w4.heap.size) o (by first | omega | (simp; done) | (simp; omega))
          have hf5_3 := fun o => (bcell hb5).2.1 (w4.heap.size) o (by first | omega | (simp; done) | (simp; omega))
          have hz5_3 := (bcell hb5).2.2 (w4.heap.size) (by first | omega | (simp; done) | (simp; omega))
          have HB5 := Lib.hid hb5
          clear hb5
          go_wp2_with fail
          refine (HCK.out Ai ci _).mono ?_
          rintro e w6a ⟨rfl, hb6a⟩
          have hs6a := hb6a.size
          try simp at hs6a
          have hc6a_0 := fun o => (bcell hb6a).1 (w.heap.size) o (by first | omega | (simp; done) | (simp; omega))
          have hf6a_0 := fun o => (bcell hb6a).2.1 (w.heap.size) o (by first | omega | (simp; done) | (simp; omega))
          have hz6a_0 := (bcell hb6a).2.2 (w.heap.size) (by first | omega | (simp; done) | (simp; omega))
          have hc6a_1 := fun o => (bcell hb6a).1 (w2.heap.size) o (by first | omega | (simp; done) | (simp; omega))
          have hf6a_1 := fun o => (bcell hb6a).2.1 (w2.heap.size) o (by first | omega | (simp; done) | (simp; omega))
          have hz6a_1 := (bcell hb6a).2.2 (w2.heap.size) (by first | omega | (simp; done) | (simp; omega))
          have hc6a_2 := fun o => (bcell hb6a).1 (wr.heap.size) o (by first | omega | (simp; done) | (simp; omega))
          have hf6a_2 := fun o => (bcell hb6a).2.1 (wr.heap.size) o (by first | omega | (simp; done) | (simp; omega))
          have hz6a_2 := (bcell hb6a).2.2 (wr.heap.size) (by first | omega | (simp; done) | (simp; omega))
          have hc6a_3 := fun o => (bcell hb6a).1 (w4.heap.size) o (by first | omega | (simp; done) | (simp; omega))
          have hf6a_3 := fun o => (bcell hb6a).2.1 (w4.heap.size) o (by first | omega | (simp; done) | (simp; omega))
          have hz6a_3 := (bcell hb6a).2.2 (w4.heap.size) (by first | omega | (simp; done) | (simp; omega))
          have HB6a := Lib.hid hb6a
          clear hb6a
          go_wp2_with (go_at_call 11; refine (HNU.out _ _).mono ?_; rintro e w' ⟨rfl, rfl⟩)
          refine (HRF.out _).mono ?_
          rintro e w6 ⟨rfl, hb6⟩
          have hs6 := hb6.size
          try simp at hs6
          have hc6_0 := fun o => (bcell hb6).1 (w.heap.size) o (by first | omega | (simp; done) | (simp; omega))
          have hf6_0 := fun o => (bcell hb6).2.1 (w.heap.size) o (by first | omega | (simp; done) | (simp; omega))
          have hz6_0 := (bcell hb6).2.2 (w.heap.size) (by first | omega | (simp; done) | (simp; omega))
          have hc6_1 := fun o => (bcell hb6).1 (w2.heap.size) o (by first | omega | (simp; done) | (simp; omega))
          have hf6_1 := fun o => (bcell hb6).2.1 (w2.heap.size) o (by first | omega | (simp; done) | (simp; omega))
          have hz6_1 := (bcell hb6).2.2 (w2.heap.size) (by first | omega | (simp; done) | (simp; omega))
          have hc6_2 := fun o => (bcell hb6).1 (wr.heap.size) o (by first | omega | (simp; done) | (simp; omega))
          have hf6_2 := fun o => (bcell hb6).2.1 (wr.heap.size) o (by first | omega | (simp; done) | (simp; omega))
          have hz6_2 := (bcell hb6).2.2 (wr.heap.size) (by first | omega | (simp; done) | (simp; omega))
          have hc6_3 := fun o => (bcell hb6).1 (w4.heap.size) o (by first | omega | (simp; done) | (simp; omega))
          have hf6_3 := fun o => (bcell hb6).2.1 (w4.heap.size) o (by first | omega | (simp; done) | (simp; omega))
          have hz6_3 := (bcell hb6).2.2 (w4.heap.size) (by first | omega | (simp; done) | (simp; omega))
          have HB6 := Lib.hid hb6
          clear hb6
          have HB6 := Lib.hid ((by repeat' (first | (with_reducible exact Below.refl _ _) | (with_reducible (refine Below.setCell ?_ ?_ _)) | (with_reducible (refine Below.alloc ?_ ?_ _)) | (with_reducible (refine Below.drew ?_)) | (with_reducible (refine below_via ?_ HB6.out ?_)) | (with_reducible (refine below_via ?_ HB6a.out ?_)) | omega | (simp; done) | (simp; omega))) : Below w5.heap.size w5 w6)
          have hs6 := HB6.out.size
          have HB6' := Lib.hid ((by repeat' (first | (with_reducible exact Below.refl _ _) | (with_reducible (refine Below.setCell ?_ ?_ _)) | (with_reducible (refine Below.alloc ?_ ?_ _)) | (with_reducible (refine Below.drew ?_)) | (with_reducible (refine below_via ?_ HB6.out ?_)) | (with_reducible (refine below_via ?_ HB5.out ?_)) | (with_reducible (refine below_via ?_ HB4.out ?_)) | (with_reducible (refine below_via ?_ HB3.out ?_)) | omega | (simp; done) | (simp; omega))) : Below wr.heap.size wr w6)
          go_wp2_with fail
          refine (HWI.out _).mono ?_
          rintro e w' ⟨rfl, rfl⟩
          go_upto_block 2 with (fail)
          obtain ⟨wb, hwb⟩ : ∃ wb, wb = (w6.alloc (.cells #[.slice none 0 0] 24)).alloc (.cells #[.slice none 0 0] 24) := ⟨_, rfl⟩
          have HBB := Lib.hid (show Below w6.heap.size w6 wb by rw [hwb]; exact (by repeat' (first | (with_reducible exact Below.refl _ _) | (with_reducible (refine Below.setCell ?_ ?_ _)) | (with_reducible (refine Below.alloc ?_ ?_ _)) | (with_reducible (refine Below.drew ?_)) | omega | (simp; done) | (simp; omega))))
          have hsb1 : w6.heap.size + 2 ≤ wb.heap.size := by rw [hwb]; simp
          have hsb2 : wb.heap.size ≤ w6.heap.size + 2 := by rw [hwb]; simp
          have HYI := Lib.hid (show wb.heap[w4.heap.size]? = some (.cells #[.slice Ai ws0.length ci] memT2 (0, 0)) from (by repeat (first | (with_reducible assumption) | (with_reducible refine heap_below_is HBB.out (by (first | omega | (simp; done) | (simp; omega))) ?_) | (with_reducible refine heap_below_is HB6.out (by (first | omega | (simp; done) | (simp; omega))) ?_) | (with_reducible refine heap_below_is HB5.out (by (first | omega | (simp; done) | (simp; omega))) ?_) | (exact heap_at _ _ (by simp; done)) | (with_reducible refine heap_old_is _ _ (by (first | omega | (simp; done) | (simp; omega))) ?_) | (with_reducible refine heap_far_is (by (first | omega | (simp; done) | (simp; omega))) ?_))))
          have HYM := Lib.hid (show wb.heap[w2.heap.size]? = some (.cells #[.slice Am ws0.length cm] memT2 (0, 0)) from (by repeat (first | (with_reducible assumption) | (with_reducible exact HMX.out) | (with_reducible refine heap_below_is HBB.out (by (first | omega | (simp; done) | (simp; omega))) ?_) | (with_reducible refine heap_below_is HB6.out (by (first | omega | (simp; done) | (simp; omega))) ?_) | (with_reducible refine heap_below_is HB5.out (by (first | omega | (simp; done) | (simp; omega))) ?_) | (with_reducible refine heap_below_is HB4.out (by (first | omega | (simp; done) | (simp; omega))) ?_) | (with_reducible refine heap_below_is HB3.out (by (first | omega | (simp; done) | (simp; omega))) ?_) | (exact heap_at _ _ (by simp; done)) | (with_reducible refine heap_old_is _ _ (by (first | omega | (simp; done) | (simp; omega))) ?_) | (with_reducible refine heap_far_is (by (first | omega | (simp; done) | (simp; omega))) ?_))))
          have HYW := Lib.hid (show wb.heap[w6.heap.size]? = some (.cells #[.slice none 0 0] memT2 (0, 0)) by rw [hwb]; exact (heap_old _ _ (by simp)).trans (heap_new _ _))
          have HYX := Lib.hid (show wb.heap[w6.heap.size + 1]? = some (.cells #[.slice none 0 0] memT2 (0, 0)) by rw [hwb]; exact heap_at _ _ (by simp))
          have HYA := Lib.hid (show wb.heap[wr.heap.size]? = some (.cells #[.int .i64 a0, .int .i64 a1, .int .i64 a2, .int .u64 a3, .slice lad l.length lcap] actT (0, 0)) from (by repeat (first | (with_reducible assumption) | (with_reducible refine heap_below_is HBB.out (by (first | omega | (simp; done) | (simp; omega))) ?_) | (with_reducible refine heap_below_is HB6.out (by (first | omega | (simp; done) | (simp; omega))) ?_) | (with_reducible refine heap_below_is HB5.out (by (first | omega | (simp; done) | (simp; omega))) ?_) | (with_reducible refine heap_below_is HB4.out (by (first | omega | (simp; done) | (simp; omega))) ?_) | (with_reducible refine heap_below_is HB3.out (by (first | omega | (simp; done) | (simp; omega))) ?_) | (exact heap_at _ _ (by simp; done)) | (with_reducible refine heap_old_is _ _ (by (first | omega | (simp; done) | (simp; omega))) ?_) | (with_reducible refine heap_far_is (by (first | omega | (simp; done) | (simp; omega))) ?_))))
          have HCI := Lib.hid (show ws0.length ≤ ci from by have := Hhown4.out.cap_; rwa [HLEN.out] at this)
          have HTI6 := Lib.hid (show At w6 Ai 1 wordCells ws from ((((Hhown4.out.alloc _).below HB5.out (by simp)).below HB6.out (by omega)).at_ word_len))
          have HTL6 := Lib.hid (show At w6 lad 1 intCells l from HLL.out.below HB6'.out)
          have HTM6 := Lib.hid (show At w6 Am 1 wordCells ws from HMT.out.below HB6'.out)
          have HTI := Lib.hid (show At wb Ai 1 wordCells ws from ((((Hhown4.out.alloc _).below HB5.out (by simp)).below HB6.out (by omega)).at_ word_len).below HBB.out)
          have HTM := Lib.hid (show At wb Am 1 wordCells ws from HMT.out.below (by repeat' (first | (with_reducible exact Below.refl _ _) | (with_reducible (refine Below.setCell ?_ ?_ _)) | (with_reducible (refine Below.alloc ?_ ?_ _)) | (with_reducible (refine Below.drew ?_)) | (with_reducible (refine below_via ?_ HBB.out ?_)) | (with_reducible (refine below_via ?_ HB6'.out ?_)) | omega | (simp; done) | (simp; omega))))
          have HTL := Lib.hid (show At wb lad 1 intCells l from HLL.out.below (by repeat' (first | (with_reducible exact Below.refl _ _) | (with_reducible (refine Below.setCell ?_ ?_ _)) | (with_reducible (refine Below.alloc ?_ ?_ _)) | (with_reducible (refine Below.drew ?_)) | (with_reducible (refine below_via ?_ HBB.out ?_)) | (with_reducible (refine below_via ?_ HB6'.out ?_)) | omega | (simp; done) | (simp; omega))))
          have HBR2 := Lib.hid (show Below wr.heap.size wr wb from (by repeat' (first | (with_reducible exact Below.refl _ _) | (with_reducible (refine Below.setCell ?_ ?_ _)) | (with_reducible (refine Below.alloc ?_ ?_ _)) | (with_reducible (refine Below.drew ?_)) | (with_reducible (refine below_via ?_ HBB.out ?_)) | (with_reducible (refine below_via ?_ HB6'.out ?_)) | omega | (simp; done) | (simp; omega))))
          rw [← hwb]
          clear hwb hc3_0 hf3_0 hz3_0 hc3_1 hf3_1 hz3_1 hc3_2 hf3_2 hz3_2 hc4_0 hf4_0 hz4_0 hc4_1 hf4_1 hz4_1 hc4_2 hf4_2 hz4_2 hc5_0 hf5_0 hz5_0 hc5_1 hf5_1 hz5_1 hc5_2 hf5_2 hz5_2 hc5_3 hf5_3 hz5_3 hc6a_0 hf6a_0 hz6a_0 hc6a_1 hf6a_1 hz6a_1 hc6a_2 hf6a_2 hz6a_2 hc6a_3 hf6a_3 hz6a_3 hc6_0 hf6_0 hz6_0 hc6_1 hf6_1 hz6_1 hc6_2 hf6_2 hz6_2 hc6_3 hf6_3 hz6_3 e0 e1 m0 c0 c1 c2 c3 c4
          have i0 := cell_of_row _ _ 0 _ _ _ HYI.out
          have m0 := cell_of_row _ _ 0 _ _ _ HYM.out
          have x0 := cell_of_row _ _ 0 _ _ _ HYX.out
          have y0 := cell_of_row _ _ 0 _ _ _ HYW.out
          have p0 := cell_of_row _ _ 0 _ _ _ HYA.out
          have p1 := cell_of_row _ _ 1 _ _ _ HYA.out
          have p2 := cell_of_row _ _ 2 _ _ _ HYA.out
          have p3 := cell_of_row _ _ 3 _ _ _ HYA.out
          have p4 := cell_of_row _ _ 4 _ _ _ HYA.out
          have xf := frozen_of_row _ _ 0 _ _ HYX.out
          have yf := frozen_of_row _ _ 0 _ _ HYW.out
          have hn1 : ¬ w4.heap.size = wb.heap.size := by omega
          have hn2 : ¬ w2.heap.size = wb.heap.size := by omega
          have hn3 : ¬ w6.heap.size = wb.heap.size := by omega
          have hn4 : ¬ w6.heap.size + 1 = wb.heap.size := by omega
          have hn5 : ¬ wr.heap.size = wb.heap.size := by omega
          have hq1 : w4.heap.size < wb.heap.size := by omega
          have hq2 : w2.heap.size < wb.heap.size := by omega
          have hq3 : w6.heap.size < wb.heap.size := by omega
          have hq4 : w6.heap.size + 1 < wb.heap.size := by omega
          have hq5 : wr.heap.size < wb.heap.size := by omega
          go_cut [10, 13] (fun s10 s13 wc => Asked ws0.length do_ wb (w6.heap.size + 1) w6.heap.size s13 s10 wc)
          case first =>
            rcases (show do_ = 4 ∨ do_ = 5 ∨ do_ = 6 ∨ do_ = 7 ∨ (do_ ≠ 4 ∧ do_ ≠ 5 ∧ do_ ≠ 6 ∧ do_ ≠ 7) by omega) with rfl | rfl | rfl | rfl | ⟨h4, h5, h6, h7⟩
            · as_aux_lemma =>
              obtain ⟨r, hr⟩ : ∃ r, placeOf ws0.length a1 a2 = r := ⟨_, rfl⟩
              have HMY := Lib.hid (fun W => refMay_any Am ws0.length cm a1 a2 W (by omega) HAA.out.2.1)
              rw [hr] at HMY
              by_cases hr0 : r = 0
              · subst hr0
                obtain ⟨hsz, hp1, hp2, hp3⟩ := placeOf_zero hr
                obtain ⟨i, hi, x, hia, hx⟩ := place_word (ws := ws) (by rw [HLEN.out]; exact hr)
                have HC := Lib.hid (fun W (hb : Below wb.heap.size wb W) => read_yes Ai ci ws a1 a2 W (by rw [HLEN.out]; have := (memOk_spec _).1 HG.out; omega) (HTI.out.below hb) HOK.out (by rw [HLEN.out]; exact HG.out) hsz hp1 (by rw [HLEN.out]; exact hp2) hp3 i hi hia x hx)
                have HD := Lib.hid (fun W (hb : Below wb.heap.size wb W) => refRead_any Am cm ws a1 a2 W (by rw [HLEN.out]; have := (memOk_spec _).1 HG.out; omega) (HTM.out.below hb) HOK.out hsz hp1 (by rw [HLEN.out]; exact hp2) i hi hia x hx)
                rw [HLEN.out] at HC HD
                generalize getOf x (a1 % 8 * 8) (maskOf a2) = v at *
                have hvv : (v != v) = false := by simp
                clear hr hia hx hp3 hsz
                go_wp2_with fail
                refine (HC.out _ (by repeat' (first | (with_reducible exact Below.refl _ _) | (with_reducible (refine Below.setCell ?_ ?_ _)) | (with_reducible (refine Below.alloc ?_ ?_ _)) | (with_reducible (refine Below.drew ?_)) | omega | (simp; done) | (simp; omega)))).mono ?_
                rintro e w8 ⟨rfl, hb8⟩
                have hs8 := hb8.size
                try simp at hs8
                have hc8_0 := fun o => (bcell hb8).1 (wr.heap.size) o (by first | omega | (simp; done) | (simp; omega))
                have hf8_0 := fun o => (bcell hb8).2.1 (wr.heap.size) o (by first | omega | (simp; done) | (simp; omega))
                have hz8_0 := (bcell hb8).2.2 (wr.heap.size) (by first | omega | (simp; done) | (simp; omega))
                have hc8_1 := fun o => (bcell hb8).1 (w2.heap.size) o (by first | omega | (simp; done) | (simp; omega))
                have hf8_1 := fun o => (bcell hb8).2.1 (w2.heap.size) o (by first | omega | (simp; done) | (simp; omega))
                have hz8_1 := (bcell hb8).2.2 (w2.heap.size) (by first | omega | (simp; done) | (simp; omega))
                have hc8_2 := fun o => (bcell hb8).1 (w4.heap.size) o (by first | omega | (simp; done) | (simp; omega))
                have hf8_2 := fun o => (bcell hb8).2.1 (w4.heap.size) o (by first | omega | (simp; done) | (simp; omega))
                have hz8_2 := (bcell hb8).2.2 (w4.heap.size) (by first | omega | (simp; done) | (simp; omega))
                have hc8_3 := fun o => (bcell hb8).1 (w6.heap.size) o (by first | omega | (simp; done) | (simp; omega))
                have hf8_3 := fun o => (bcell hb8).2.1 (w6.heap.size) o (by first | omega | (simp; done) | (simp; omega))
                have hz8_3 := (bcell hb8).2.2 (w6.heap.size) (by first | omega | (simp; done) | (simp; omega))
                have hc8_4 := fun o => (bcell hb8).1 (w6.heap.size + 1) o (by first | omega | (simp; done) | (simp; omega))
                have hf8_4 := fun o => (bcell hb8).2.1 (w6.heap.size + 1) o (by first | omega | (simp; done) | (simp; omega))
                have hz8_4 := (bcell hb8).2.2 (w6.heap.size + 1) (by first | omega | (simp; done) | (simp; omega))
                have HB8 := Lib.hid hb8
                clear hb8
                go_wp2_with fail
                refine (HMY.out _).mono ?_
                rintro e w9 ⟨rfl, hb9⟩
                have hs9 := hb9.size
                try simp at hs9
                have hc9_0 := fun o => (bcell hb9).1 (wr.heap.size) o (by first | omega | (simp; done) | (simp; omega))
                have hf9_0 := fun o => (bcell hb9).2.1 (wr.heap.size) o (by first | omega | (simp; done) | (simp; omega))
                have hz9_0 := (bcell hb9).2.2 (wr.heap.size) (by first | omega | (simp; done) | (simp; omega))
                have hc9_1 := fun o => (bcell hb9).1 (w2.heap.size) o (by first | omega | (simp; done) | (simp; omega))
                have hf9_1 := fun o => (bcell hb9).2.1 (w2.heap.size) o (by first | omega | (simp; done) | (simp; omega))
                have hz9_1 := (bcell hb9).2.2 (w2.heap.size) (by first | omega | (simp; done) | (simp; omega))
                have hc9_2 := fun o => (bcell hb9).1 (w4.heap.size) o (by first | omega | (simp; done) | (simp; omega))
                have hf9_2 := fun o => (bcell hb9).2.1 (w4.heap.size) o (by first | omega | (simp; done) | (simp; omega))
                have hz9_2 := (bcell hb9).2.2 (w4.heap.size) (by first | omega | (simp; done) | (simp; omega))
                have hc9_3 := fun o => (bcell hb9).1 (w6.heap.size) o (by first | omega | (simp; done) | (simp; omega))
                have hf9_3 := fun o => (bcell hb9).2.1 (w6.heap.size) o (by first | omega | (simp; done) | (simp; omega))
                have hz9_3 := (bcell hb9).2.2 (w6.heap.size) (by first | omega | (simp; done) | (simp; omega))
                have hc9_4 := fun o => (bcell hb9).1 (w6.heap.size + 1) o (by first | omega | (simp; done) | (simp; omega))
                have hf9_4 := fun o => (bcell hb9).2.1 (w6.heap.size + 1) o (by first | omega | (simp; done) | (simp; omega))
                have hz9_4 := (bcell hb9).2.2 (w6.heap.size + 1) (by first | omega | (simp; done) | (simp; omega))
                have HB9 := Lib.hid hb9
                clear hb9
                go_wp2_with fail
                refine (HD.out _ (by repeat' (first | (with_reducible exact Below.refl _ _) | (with_reducible (refine Below.setCell ?_ ?_ _)) | (with_reducible (refine Below.alloc ?_ ?_ _)) | (with_reducible (refine Below.drew ?_)) | (with_reducible (refine below_via ?_ HB9.out ?_)) | (with_reducible (refine below_via ?_ HB8.out ?_)) | omega | (simp; done) | (simp; omega)))).mono ?_
                rintro e w10 ⟨rfl, hb10⟩
                have hs10 := hb10.size
                try simp at hs10
                have HB10 := Lib.hid hb10
                clear hb10
                go_wp2
                go_meet
                exact asked_no (by repeat (first | (with_reducible assumption) | (with_reducible exact HYW.out) | (with_reducible refine heap_below_is HB10.out (by (first | omega | (simp; done) | (simp; omega))) ?_) | (with_reducible refine heap_below_is HB9.out (by (first | omega | (simp; done) | (simp; omega))) ?_) | (with_reducible refine heap_below_is HB8.out (by (first | omega | (simp; done) | (simp; omega))) ?_) | (exact heap_at _ _ (by simp; done)) | (with_reducible refine heap_old_is _ _ (by (first | omega | (simp; done) | (simp; omega))) ?_) | (with_reducible refine heap_far_is (by (first | omega | (simp; done) | (simp; omega))) ?_))) (by repeat (first | (with_reducible assumption) | (with_reducible exact HYX.out) | (with_reducible refine heap_below_is HB10.out (by (first | omega | (simp; done) | (simp; omega))) ?_) | (with_reducible refine heap_below_is HB9.out (by (first | omega | (simp; done) | (simp; omega))) ?_) | (with_reducible refine heap_below_is HB8.out (by (first | omega | (simp; done) | (simp; omega))) ?_) | (exact heap_at _ _ (by simp; done)) | (with_reducible refine heap_old_is _ _ (by (first | omega | (simp; done) | (simp; omega))) ?_) | (with_reducible refine heap_far_is (by (first | omega | (simp; done) | (simp; omega))) ?_))) (by omega) (by repeat' (first | (with_reducible exact Below.refl _ _) | (with_reducible (refine Below.setCell ?_ ?_ _)) | (with_reducible (refine Below.alloc ?_ ?_ _)) | (with_reducible (refine Below.drew ?_)) | (with_reducible (refine below_via ?_ HB10.out ?_)) | (with_reducible (refine below_via ?_ HB9.out ?_)) | (with_reducible (refine below_via ?_ HB8.out ?_)) | omega | (simp; done) | (simp; omega))) (.inr (.inl rfl))
              · have HC := Lib.hid (fun W => read_no Ai ws0.length ci a1 a2 r W (by omega) HAA.out.2.1 (by rw [HG.out, if_pos rfl, hr]) hr0)
                have hrb : (r == 0) = false := by simp [hr0]
                clear hr hr0
                go_wp2_with fail
                refine (HC.out _).mono ?_
                rintro e w8 ⟨rfl, hb8⟩
                have hs8 := hb8.size
                try simp at hs8
                have hc8_0 := fun o => (bcell hb8).1 (wr.heap.size) o (by first | omega | (simp; done) | (simp; omega))
                have hf8_0 := fun o => (bcell hb8).2.1 (wr.heap.size) o (by first | omega | (simp; done) | (simp; omega))
                have hz8_0 := (bcell hb8).2.2 (wr.heap.size) (by first | omega | (simp; done) | (simp; omega))
                have hc8_1 := fun o => (bcell hb8).1 (w2.heap.size) o (by first | omega | (simp; done) | (simp; omega))
                have hf8_1 := fun o => (bcell hb8).2.1 (w2.heap.size) o (by first | omega | (simp; done) | (simp; omega))
                have hz8_1 := (bcell hb8).2.2 (w2.heap.size) (by first | omega | (simp; done) | (simp; omega))
                have hc8_2 := fun o => (bcell hb8).1 (w4.heap.size) o (by first | omega | (simp; done) | (simp; omega))
                have hf8_2 := fun o => (bcell hb8).2.1 (w4.heap.size) o (by first | omega | (simp; done) | (simp; omega))
                have hz8_2 := (bcell hb8).2.2 (w4.heap.size) (by first | omega | (simp; done) | (simp; omega))
                have hc8_3 := fun o => (bcell hb8).1 (w6.heap.size) o (by first | omega | (simp; done) | (simp; omega))
                have hf8_3 := fun o => (bcell hb8).2.1 (w6.heap.size) o (by first | omega | (simp; done) | (simp; omega))
                have hz8_3 := (bcell hb8).2.2 (w6.heap.size) (by first | omega | (simp; done) | (simp; omega))
                have hc8_4 := fun o => (bcell hb8).1 (w6.heap.size + 1) o (by first | omega | (simp; done) | (simp; omega))
                have hf8_4 := fun o => (bcell hb8).2.1 (w6.heap.size + 1) o (by first | omega | (simp; done) | (simp; omega))
                have hz8_4 := (bcell hb8).2.2 (w6.heap.size + 1) (by first | omega | (simp; done) | (simp; omega))
                have HB8 := Lib.hid hb8
                clear hb8
                go_wp2_with fail
                refine (HMY.out _).mono ?_
                rintro e w9 ⟨rfl, hb9⟩
                have hs9 := hb9.size
                try simp at hs9
                have HB9 := Lib.hid hb9
                clear hb9
                go_wp2
                go_meet
                exact asked_no (by repeat (first | (with_reducible assumption) | (with_reducible exact HYW.out) | (with_reducible refine heap_below_is HB9.out (by (first | omega | (simp; done) | (simp; omega))) ?_) | (with_reducible refine heap_below_is HB8.out (by (first | omega | (simp; done) | (simp; omega))) ?_) | (exact heap_at _ _ (by simp; done)) | (with_reducible refine heap_old_is _ _ (by (first | omega | (simp; done) | (simp; omega))) ?_) | (with_reducible refine heap_far_is (by (first | omega | (simp; done) | (simp; omega))) ?_))) (by repeat (first | (with_reducible assumption) | (with_reducible exact HYX.out) | (with_reducible refine heap_below_is HB9.out (by (first | omega | (simp; done) | (simp; omega))) ?_) | (with_reducible refine heap_below_is HB8.out (by (first | omega | (simp; done) | (simp; omega))) ?_) | (exact heap_at _ _ (by simp; done)) | (with_reducible refine heap_old_is _ _ (by (first | omega | (simp; done) | (simp; omega))) ?_) | (with_reducible refine heap_far_is (by (first | omega | (simp; done) | (simp; omega))) ?_))) (by omega) (by repeat' (first | (with_reducible exact Below.refl _ _) | (with_reducible (refine Below.setCell ?_ ?_ _)) | (with_reducible (refine Below.alloc ?_ ?_ _)) | (with_reducible (refine Below.drew ?_)) | (with_reducible (refine below_via ?_ HB9.out ?_)) | (with_reducible (refine below_via ?_ HB8.out ?_)) | omega | (simp; done) | (simp; omega))) (.inr (.inl rfl))
            · as_aux_lemma =>
              have HTH := Lib.hid (fun W (hb : Below wb.heap.size wb W) => there_any Am lad cm lcap ws0.length l W (by omega) (by omega) (HTL.out.below hb))
              cases ht : thereB ((ws0.length : Int) / 8) l
              · have HC := Lib.hid (fun W (hb : Below wb.heap.size wb W) => Zero_no Ai lad ci lcap ws0.length l W (by omega) (by omega) (HTL.out.below hb) (by rw [askOf, HG.out, if_pos rfl, ht]; decide))
                rw [show askOf ws0.length l = 2 by rw [askOf, HG.out, if_pos rfl, ht]; rfl] at HC
                rw [ht] at HTH
                clear ht
                go_wp2_with fail
                refine (HTH.out _ (by repeat' (first | (with_reducible exact Below.refl _ _) | (with_reducible (refine Below.setCell ?_ ?_ _)) | (with_reducible (refine Below.alloc ?_ ?_ _)) | (with_reducible (refine Below.drew ?_)) | omega | (simp; done) | (simp; omega)))).mono ?_
                rintro e w8 ⟨rfl, hb8⟩
                have hs8 := hb8.size
                try simp at hs8
                have hc8_0 := fun o => (bcell hb8).1 (wr.heap.size) o (by first | omega | (simp; done) | (simp; omega))
                have hf8_0 := fun o => (bcell hb8).2.1 (wr.heap.size) o (by first | omega | (simp; done) | (simp; omega))
                have hz8_0 := (bcell hb8).2.2 (wr.heap.size) (by first | omega | (simp; done) | (simp; omega))
                have hc8_1 := fun o => (bcell hb8).1 (w2.heap.size) o (by first | omega | (simp; done) | (simp; omega))
                have hf8_1 := fun o => (bcell hb8).2.1 (w2.heap.size) o (by first | omega | (simp; done) | (simp; omega))
                have hz8_1 := (bcell hb8).2.2 (w2.heap.size) (by first | omega | (simp; done) | (simp; omega))
                have hc8_2 := fun o => (bcell hb8).1 (w4.heap.size) o (by first | omega | (simp; done) | (simp; omega))
                have hf8_2 := fun o => (bcell hb8).2.1 (w4.heap.size) o (by first | omega | (simp; done) | (simp; omega))
                have hz8_2 := (bcell hb8).2.2 (w4.heap.size) (by first | omega | (simp; done) | (simp; omega))
                have hc8_3 := fun o => (bcell hb8).1 (w6.heap.size) o (by first | omega | (simp; done) | (simp; omega))
                have hf8_3 := fun o => (bcell hb8).2.1 (w6.heap.size) o (by first | omega | (simp; done) | (simp; omega))
                have hz8_3 := (bcell hb8).2.2 (w6.heap.size) (by first | omega | (simp; done) | (simp; omega))
                have hc8_4 := fun o => (bcell hb8).1 (w6.heap.size + 1) o (by first | omega | (simp; done) | (simp; omega))
                have hf8_4 := fun o => (bcell hb8).2.1 (w6.heap.size + 1) o (by first | omega | (simp; done) | (simp; omega))
                have hz8_4 := (bcell hb8).2.2 (w6.heap.size + 1) (by first | omega | (simp; done) | (simp; omega))
                have HB8 := Lib.hid hb8
                clear hb8
                go_wp2_with fail
                refine (HC.out _ (by repeat' (first | (with_reducible exact Below.refl _ _) | (with_reducible (refine Below.setCell ?_ ?_ _)) | (with_reducible (refine Below.alloc ?_ ?_ _)) | (with_reducible (refine Below.drew ?_)) | (with_reducible (refine below_via ?_ HB8.out ?_)) | omega | (simp; done) | (simp; omega)))).mono ?_
                rintro e w9 ⟨rfl, hb9⟩
                have hs9 := hb9.size
                try simp at hs9
                have hc9_0 := fun o => (bcell hb9).1 (wr.heap.size) o (by first | omega | (simp; done) | (simp; omega))
                have hf9_0 := fun o => (bcell hb9).2.1 (wr.heap.size) o (by first | omega | (simp; done) | (simp; omega))
                have hz9_0 := (bcell hb9).2.2 (wr.heap.size) (by first | omega | (simp; done) | (simp; omega))
                have hc9_1 := fun o => (bcell hb9).1 (w2.heap.size) o (by first | omega | (simp; done) | (simp; omega))
                have hf9_1 := fun o => (bcell hb9).2.1 (w2.heap.size) o (by first | omega | (simp; done) | (simp; omega))
                have hz9_1 := (bcell hb9).2.2 (w2.heap.size) (by first | omega | (simp; done) | (simp; omega))
                have hc9_2 := fun o => (bcell hb9).1 (w4.heap.size) o (by first | omega | (simp; done) | (simp; omega))
                have hf9_2 := fun o => (bcell hb9).2.1 (w4.heap.size) o (by first | omega | (simp; done) | (simp; omega))
                have hz9_2 := (bcell hb9).2.2 (w4.heap.size) (by first | omega | (simp; done) | (simp; omega))
                have hc9_3 := fun o => (bcell hb9).1 (w6.heap.size) o (by first | omega | (simp; done) | (simp; omega))
                have hf9_3 := fun o => (bcell hb9).2.1 (w6.heap.size) o (by first | omega | (simp; done) | (simp; omega))
                have hz9_3 := (bcell hb9).2.2 (w6.heap.size) (by first | omega | (simp; done) | (simp; omega))
                have hc9_4 := fun o => (bcell hb9).1 (w6.heap.size + 1) o (by first | omega | (simp; done) | (simp; omega))
                have hf9_4 := fun o => (bcell hb9).2.1 (w6.heap.size + 1) o (by first | omega | (simp; done) | (simp; omega))
                have hz9_4 := (bcell hb9).2.2 (w6.heap.size + 1) (by first | omega | (simp; done) | (simp; omega))
                have HB9 := Lib.hid hb9
                clear hb9
                go_wp2
                go_meet
                exact asked_no (by repeat (first | (with_reducible assumption) | (with_reducible exact HYW.out) | (with_reducible refine heap_below_is HB9.out (by (first | omega | (simp; done) | (simp; omega))) ?_) | (with_reducible refine heap_below_is HB8.out (by (first | omega | (simp; done) | (simp; omega))) ?_) | (exact heap_at _ _ (by simp; done)) | (with_reducible refine heap_old_is _ _ (by (first | omega | (simp; done) | (simp; omega))) ?_) | (with_reducible refine heap_far_is (by (first | omega | (simp; done) | (simp; omega))) ?_))) (by exact (heap_set_same (heap_below_is HB9.out (by omega) (heap_below_is HB8.out hq4 HYX.out)) 0 _).trans rfl) (by simp; omega) (by repeat' (first | (with_reducible exact Below.refl _ _) | (with_reducible (refine Below.setCell ?_ ?_ _)) | (with_reducible (refine Below.alloc ?_ ?_ _)) | (with_reducible (refine Below.drew ?_)) | (with_reducible (refine below_via ?_ HB9.out ?_)) | (with_reducible (refine below_via ?_ HB8.out ?_)) | omega | (simp; done) | (simp; omega))) (.inl (by decide))
              · have hk8 := (memOk_spec _).1 HG.out
                have HC := Lib.hid (fun W (hb : Below w6.heap.size w6 W) => Zero_yes Ai lad ci lcap ws l W (by rw [HLEN.out]; omega) (by rw [HLEN.out]; omega) (by omega) (HTI6.out.below hb) (HTL6.out.below hb) (by rw [HLEN.out, askOf, HG.out, if_pos rfl, ht]; rfl) (by rw [HLEN.out]; exact ht))
                have HD := Lib.hid (fun W (hb : Below w6.heap.size w6 W) => refZero_any Am lad cm lcap ws l W (by rw [HLEN.out]; omega) (by rw [HLEN.out]; omega) (by omega) (HTM6.out.below hb) (HTL6.out.below hb) (by rw [HLEN.out]; exact ht))
                rw [HLEN.out] at HC HD
                rw [ht] at HTH
                have HZL := Lib.hid (show (zeroed ws l).length = ws0.length by rw [zeroed_len, HLEN.out])
                have HZW := Lib.hid (zeroed_words l ws HOK.out)
                generalize zeroed ws l = wl at *
                clear ht hk8
                go_wp2_with fail
                refine (HTH.out _ (by repeat' (first | (with_reducible exact Below.refl _ _) | (with_reducible (refine Below.setCell ?_ ?_ _)) | (with_reducible (refine Below.alloc ?_ ?_ _)) | (with_reducible (refine Below.drew ?_)) | omega | (simp; done) | (simp; omega)))).mono ?_
                rintro e w8 ⟨rfl, hb8⟩
                have hs8 := hb8.size
                try simp at hs8
                have hc8_0 := fun o => (bcell hb8).1 (wr.heap.size) o (by first | omega | (simp; done) | (simp; omega))
                have hf8_0 := fun o => (bcell hb8).2.1 (wr.heap.size) o (by first | omega | (simp; done) | (simp; omega))
                have hz8_0 := (bcell hb8).2.2 (wr.heap.size) (by first | omega | (simp; done) | (simp; omega))
                have hc8_1 := fun o => (bcell hb8).1 (w2.heap.size) o (by first | omega | (simp; done) | (simp; omega))
                have hf8_1 := fun o => (bcell hb8).2.1 (w2.heap.size) o (by first | omega | (simp; done) | (simp; omega))
                have hz8_1 := (bcell hb8).2.2 (w2.heap.size) (by first | omega | (simp; done) | (simp; omega))
                have hc8_2 := fun o => (bcell hb8).1 (w4.heap.size) o (by first | omega | (simp; done) | (simp; omega))
                have hf8_2 := fun o => (bcell hb8).2.1 (w4.heap.size) o (by first | omega | (simp; done) | (simp; omega))
                have hz8_2 := (bcell hb8).2.2 (w4.heap.size) (by first | omega | (simp; done) | (simp; omega))
                have hc8_3 := fun o => (bcell hb8).1 (w6.heap.size) o (by first | omega | (simp; done) | (simp; omega))
                have hf8_3 := fun o => (bcell hb8).2.1 (w6.heap.size) o (by first | omega | (simp; done) | (simp; omega))
                have hz8_3 := (bcell hb8).2.2 (w6.heap.size) (by first | omega | (simp; done) | (simp; omega))
                have hc8_4 := fun o => (bcell hb8).1 (w6.heap.size + 1) o (by first | omega | (simp; done) | (simp; omega))
                have hf8_4 := fun o => (bcell hb8).2.1 (w6.heap.size + 1) o (by first | omega | (simp; done) | (simp; omega))
                have hz8_4 := (bcell hb8).2.2 (w6.heap.size + 1) (by first | omega | (simp; done) | (simp; omega))
                have HB8 := Lib.hid hb8
                clear hb8
                go_wp2_with fail
                refine (HD.out _ (by repeat' (first | (with_reducible exact Below.refl _ _) | (with_reducible (refine Below.setCell ?_ ?_ _)) | (with_reducible (refine Below.alloc ?_ ?_ _)) | (with_reducible (refine Below.drew ?_)) | (with_reducible (refine below_via ?_ HB8.out ?_)) | (with_reducible (refine below_via ?_ HBB.out ?_)) | omega | (simp; done) | (simp; omega)))).mono ?_
                rintro e w9 ⟨Aw, cw, rfl, hown9, hb9⟩
                have hs9 := hb9.size
                try simp at hs9
                have hc9_0 := fun o => (bcell hb9).1 (wr.heap.size) o (by first | omega | (simp; done) | (simp; omega))
                have hf9_0 := fun o => (bcell hb9).2.1 (wr.heap.size) o (by first | omega | (simp; done) | (simp; omega))
                have hz9_0 := (bcell hb9).2.2 (wr.heap.size) (by first | omega | (simp; done) | (simp; omega))
                have hc9_1 := fun o => (bcell hb9).1 (w2.heap.size) o (by first | omega | (simp; done) | (simp; omega))
                have hf9_1 := fun o => (bcell hb9).2.1 (w2.heap.size) o (by first | omega | (simp; done) | (simp; omega))
                have hz9_1 := (bcell hb9).2.2 (w2.heap.size) (by first | omega | (simp; done) | (simp; omega))
                have hc9_2 := fun o => (bcell hb9).1 (w4.heap.size) o (by first | omega | (simp; done) | (simp; omega))
                have hf9_2 := fun o => (bcell hb9).2.1 (w4.heap.size) o (by first | omega | (simp; done) | (simp; omega))
                have hz9_2 := (bcell hb9).2.2 (w4.heap.size) (by first | omega | (simp; done) | (simp; omega))
                have hc9_3 := fun o => (bcell hb9).1 (w6.heap.size) o (by first | omega | (simp; done) | (simp; omega))
                have hf9_3 := fun o => (bcell hb9).2.1 (w6.heap.size) o (by first | omega | (simp; done) | (simp; omega))
                have hz9_3 := (bcell hb9).2.2 (w6.heap.size) (by first | omega | (simp; done) | (simp; omega))
                have hc9_4 := fun o => (bcell hb9).1 (w6.heap.size + 1) o (by first | omega | (simp; done) | (simp; omega))
                have hf9_4 := fun o => (bcell hb9).2.1 (w6.heap.size + 1) o (by first | omega | (simp; done) | (simp; omega))
                have hz9_4 := (bcell hb9).2.2 (w6.heap.size + 1) (by first | omega | (simp; done) | (simp; omega))
                have HB9 := Lib.hid hb9
                clear hb9
                have Hhown9 := Lib.hid hown9
                clear hown9
                go_wp2_with fail
                refine (HC.out _ (by repeat' (first | (with_reducible exact Below.refl _ _) | (with_reducible (refine Below.setCell ?_ ?_ _)) | (with_reducible (refine Below.alloc ?_ ?_ _)) | (with_reducible (refine Below.drew ?_)) | (with_reducible (refine below_via ?_ HB9.out ?_)) | (with_reducible (refine below_via ?_ HB8.out ?_)) | (with_reducible (refine below_via ?_ HBB.out ?_)) | omega | (simp; done) | (simp; omega)))).mono ?_
                rintro e w10 ⟨Ax, cx, rfl, hown10, hb10⟩
                have hs10 := hb10.size
                try simp at hs10
                have hc10_0 := fun o => (bcell hb10).1 (wr.heap.size) o (by first | omega | (simp; done) | (simp; omega))
                have hf10_0 := fun o => (bcell hb10).2.1 (wr.heap.size) o (by first | omega | (simp; done) | (simp; omega))
                have hz10_0 := (bcell hb10).2.2 (wr.heap.size) (by first | omega | (simp; done) | (simp; omega))
                have hc10_1 := fun o => (bcell hb10).1 (w2.heap.size) o (by first | omega | (simp; done) | (simp; omega))
                have hf10_1 := fun o => (bcell hb10).2.1 (w2.heap.size) o (by first | omega | (simp; done) | (simp; omega))
                have hz10_1 := (bcell hb10).2.2 (w2.heap.size) (by first | omega | (simp; done) | (simp; omega))
                have hc10_2 := fun o => (bcell hb10).1 (w4.heap.size) o (by first | omega | (simp; done) | (simp; omega))
                have hf10_2 := fun o => (bcell hb10).2.1 (w4.heap.size) o (by first | omega | (simp; done) | (simp; omega))
                have hz10_2 := (bcell hb10).2.2 (w4.heap.size) (by first | omega | (simp; done) | (simp; omega))
                have hc10_3 := fun o => (bcell hb10).1 (w6.heap.size) o (by first | omega | (simp; done) | (simp; omega))
                have hf10_3 := fun o => (bcell hb10).2.1 (w6.heap.size) o (by first | omega | (simp; done) | (simp; omega))
                have hz10_3 := (bcell hb10).2.2 (w6.heap.size) (by first | omega | (simp; done) | (simp; omega))
                have hc10_4 := fun o => (bcell hb10).1 (w6.heap.size + 1) o (by first | omega | (simp; done) | (simp; omega))
                have hf10_4 := fun o => (bcell hb10).2.1 (w6.heap.size + 1) o (by first | omega | (simp; done) | (simp; omega))
                have hz10_4 := (bcell hb10).2.2 (w6.heap.size + 1) (by first | omega | (simp; done) | (simp; omega))
                have HB10 := Lib.hid hb10
                clear hb10
                have Hhown10 := Lib.hid hown10
                clear hown10
                go_wp2
                go_meet
                have hgw := fun p hp => (Hhown9.out.block_ (p := p) hp).2
                have hbo := HB10.out.size
                refine asked_yes (B := w9.heap.size) ?_ ?_ (((Hhown9.out.set_far (by simp; omega) _).below HB10.out (by simp)).set_far (by simp; omega) _) hgw ((Hhown10.out.mono (by simp)).set_far (by simp; omega) _) (by omega) (by simp; omega) (by repeat' (first | (with_reducible exact Below.refl _ _) | (with_reducible (refine Below.setCell ?_ ?_ _)) | (with_reducible (refine Below.alloc ?_ ?_ _)) | (with_reducible (refine Below.drew ?_)) | (with_reducible (refine below_via ?_ HB10.out ?_)) | (with_reducible (refine below_via ?_ HB9.out ?_)) | (with_reducible (refine below_via ?_ HB8.out ?_)) | omega | (simp; done) | (simp; omega))) HZL.out (by omega) HZW.out
                · exact heap_far_is (by simp) (heap_below_is HB10.out (by simp; omega) ((heap_set_same (heap_below_is HB9.out (by omega) (heap_below_is HB8.out hq3 HYW.out)) 0 _).trans rfl))
                · exact (heap_set_same (heap_below_is HB10.out (by simp; omega) (heap_far_is (by simp) (heap_below_is HB9.out (by omega) (heap_below_is HB8.out hq4 HYX.out)))) 0 _).trans rfl
            · as_aux_lemma =>
              have HTH := Lib.hid (fun (L : Option Addr) W (hL : At W L 1 intCells [a1, a2]) => there_any Am L cm 2 ws0.length [a1, a2] W (by omega) (by simp) hL)
              cases ht : thereB ((ws0.length : Int) / 8) [a1, a2]
              · have HC := Lib.hid (fun W => Copy_no Ai ci ws0.length a1 a2 W (by omega) (by rw [askOf, HG.out, if_pos rfl, ht]; decide))
                rw [show askOf ws0.length [a1, a2] = 2 by rw [askOf, HG.out, if_pos rfl, ht]; rfl] at HC
                rw [ht] at HTH
                clear ht
                go_wp2_with fail
                refine (HTH.out _ _ (by exact at_new2 _ _ _ _ _ _ (by first | rfl | simp) rfl rfl)).mono ?_
                rintro e w8 ⟨rfl, hb8⟩
                have hs8 := hb8.size
                try simp at hs8
                have hc8_0 := fun o => (bcell hb8).1 (wr.heap.size) o (by first | omega | (simp; done) | (simp; omega))
                have hf8_0 := fun o => (bcell hb8).2.1 (wr.heap.size) o (by first | omega | (simp; done) | (simp; omega))
                have hz8_0 := (bcell hb8).2.2 (wr.heap.size) (by first | omega | (simp; done) | (simp; omega))
                have hc8_1 := fun o => (bcell hb8).1 (w2.heap.size) o (by first | omega | (simp; done) | (simp; omega))
                have hf8_1 := fun o => (bcell hb8).2.1 (w2.heap.size) o (by first | omega | (simp; done) | (simp; omega))
                have hz8_1 := (bcell hb8).2.2 (w2.heap.size) (by first | omega | (simp; done) | (simp; omega))
                have hc8_2 := fun o => (bcell hb8).1 (w4.heap.size) o (by first | omega | (simp; done) | (simp; omega))
                have hf8_2 := fun o => (bcell hb8).2.1 (w4.heap.size) o (by first | omega | (simp; done) | (simp; omega))
                have hz8_2 := (bcell hb8).2.2 (w4.heap.size) (by first | omega | (simp; done) | (simp; omega))
                have hc8_3 := fun o => (bcell hb8).1 (w6.heap.size) o (by first | omega | (simp; done) | (simp; omega))
                have hf8_3 := fun o => (bcell hb8).2.1 (w6.heap.size) o (by first | omega | (simp; done) | (simp; omega))
                have hz8_3 := (bcell hb8).2.2 (w6.heap.size) (by first | omega | (simp; done) | (simp; omega))
                have hc8_4 := fun o => (bcell hb8).1 (w6.heap.size + 1) o (by first | omega | (simp; done) | (simp; omega))
                have hf8_4 := fun o => (bcell hb8).2.1 (w6.heap.size + 1) o (by first | omega | (simp; done) | (simp; omega))
                have hz8_4 := (bcell hb8).2.2 (w6.heap.size + 1) (by first | omega | (simp; done) | (simp; omega))
                have HB8 := Lib.hid hb8
                clear hb8
                go_wp2_with fail
                refine (HC.out _).mono ?_
                rintro e w9 ⟨rfl, hb9⟩
                have hs9 := hb9.size
                try simp at hs9
                have hc9_0 := fun o => (bcell hb9).1 (wr.heap.size) o (by first | omega | (simp; done) | (simp; omega))
                have hf9_0 := fun o => (bcell hb9).2.1 (wr.heap.size) o (by first | omega | (simp; done) | (simp; omega))
                have hz9_0 := (bcell hb9).2.2 (wr.heap.size) (by first | omega | (simp; done) | (simp; omega))
                have hc9_1 := fun o => (bcell hb9).1 (w2.heap.size) o (by first | omega | (simp; done) | (simp; omega))
                have hf9_1 := fun o => (bcell hb9).2.1 (w2.heap.size) o (by first | omega | (simp; done) | (simp; omega))
                have hz9_1 := (bcell hb9).2.2 (w2.heap.size) (by first | omega | (simp; done) | (simp; omega))
                have hc9_2 := fun o => (bcell hb9).1 (w4.heap.size) o (by first | omega | (simp; done) | (simp; omega))
                have hf9_2 := fun o => (bcell hb9).2.1 (w4.heap.size) o (by first | omega | (simp; done) | (simp; omega))
                have hz9_2 := (bcell hb9).2.2 (w4.heap.size) (by first | omega | (simp; done) | (simp; omega))
                have hc9_3 := fun o => (bcell hb9).1 (w6.heap.size) o (by first | omega | (simp; done) | (simp; omega))
                have hf9_3 := fun o => (bcell hb9).2.1 (w6.heap.size) o (by first | omega | (simp; done) | (simp; omega))
                have hz9_3 := (bcell hb9).2.2 (w6.heap.size) (by first | omega | (simp; done) | (simp; omega))
                have hc9_4 := fun o => (bcell hb9).1 (w6.heap.size + 1) o (by first | omega | (simp; done) | (simp; omega))
                have hf9_4 := fun o => (bcell hb9).2.1 (w6.heap.size + 1) o (by first | omega | (simp; done) | (simp; omega))
                have hz9_4 := (bcell hb9).2.2 (w6.heap.size + 1) (by first | omega | (simp; done) | (simp; omega))
                have HB9 := Lib.hid hb9
                clear hb9
                go_wp2
                go_meet
                exact asked_no (by repeat (first | (with_reducible assumption) | (with_reducible exact HYW.out) | (with_reducible refine heap_below_is HB9.out (by (first | omega | (simp; done) | (simp; omega))) ?_) | (with_reducible refine heap_below_is HB8.out (by (first | omega | (simp; done) | (simp; omega))) ?_) | (exact heap_at _ _ (by simp; done)) | (with_reducible refine heap_old_is _ _ (by (first | omega | (simp; done) | (simp; omega))) ?_) | (with_reducible refine heap_far_is (by (first | omega | (simp; done) | (simp; omega))) ?_))) (by exact (heap_set_same (heap_below_is HB9.out (by omega) (heap_below_is HB8.out (by simp; omega) (heap_old_is _ _ hq4 HYX.out))) 0 _).trans rfl) (by simp; omega) (by repeat' (first | (with_reducible exact Below.refl _ _) | (with_reducible (refine Below.setCell ?_ ?_ _)) | (with_reducible (refine Below.alloc ?_ ?_ _)) | (with_reducible (refine Below.drew ?_)) | (with_reducible (refine below_via ?_ HB9.out ?_)) | (with_reducible (refine below_via ?_ HB8.out ?_)) | omega | (simp; done) | (simp; omega))) (.inl (by decide))
              · have hk8 := (memOk_spec _).1 HG.out
                obtain ⟨f, hf, hf8⟩ := there_at ht (i := 0) (by simp)
                obtain ⟨t, hto, ht8⟩ := there_at ht (i := 1) (by simp)
                simp only [List.getElem_cons_zero, List.getElem_cons_succ] at hf hto
                subst hf hto
                have HC := Lib.hid (fun W (hb : Below w6.heap.size w6 W) => Copy_yes Ai ci ws f t W (by rw [HLEN.out]; omega) (HTI6.out.below hb) (by rw [HLEN.out, askOf, HG.out, if_pos rfl, ht]; rfl) (by rw [HLEN.out]; omega) (by rw [HLEN.out]; omega))
                have HD := Lib.hid (fun W (hb : Below w6.heap.size w6 W) => CopyMem_any Am cm ws W (by rw [HLEN.out]; omega) (HTM6.out.below hb))
                rw [HLEN.out] at HC HD
                rw [ht] at HTH
                have HFL := Lib.hid (frame_len ws f (by rw [HLEN.out]; omega))
                clear ht
                go_wp2_with fail
                refine (HTH.out _ _ (by exact at_new2 _ _ _ _ _ _ (by first | rfl | simp) rfl rfl)).mono ?_
                rintro e w8 ⟨rfl, hb8⟩
                have hs8 := hb8.size
                try simp at hs8
                have hc8_0 := fun o => (bcell hb8).1 (wr.heap.size) o (by first | omega | (simp; done) | (simp; omega))
                have hf8_0 := fun o => (bcell hb8).2.1 (wr.heap.size) o (by first | omega | (simp; done) | (simp; omega))
                have hz8_0 := (bcell hb8).2.2 (wr.heap.size) (by first | omega | (simp; done) | (simp; omega))
                have hc8_1 := fun o => (bcell hb8).1 (w2.heap.size) o (by first | omega | (simp; done) | (simp; omega))
                have hf8_1 := fun o => (bcell hb8).2.1 (w2.heap.size) o (by first | omega | (simp; done) | (simp; omega))
                have hz8_1 := (bcell hb8).2.2 (w2.heap.size) (by first | omega | (simp; done) | (simp; omega))
                have hc8_2 := fun o => (bcell hb8).1 (w4.heap.size) o (by first | omega | (simp; done) | (simp; omega))
                have hf8_2 := fun o => (bcell hb8).2.1 (w4.heap.size) o (by first | omega | (simp; done) | (simp; omega))
                have hz8_2 := (bcell hb8).2.2 (w4.heap.size) (by first | omega | (simp; done) | (simp; omega))
                have hc8_3 := fun o => (bcell hb8).1 (w6.heap.size) o (by first | omega | (simp; done) | (simp; omega))
                have hf8_3 := fun o => (bcell hb8).2.1 (w6.heap.size) o (by first | omega | (simp; done) | (simp; omega))
                have hz8_3 := (bcell hb8).2.2 (w6.heap.size) (by first | omega | (simp; done) | (simp; omega))
                have hc8_4 := fun o => (bcell hb8).1 (w6.heap.size + 1) o (by first | omega | (simp; done) | (simp; omega))
                have hf8_4 := fun o => (bcell hb8).2.1 (w6.heap.size + 1) o (by first | omega | (simp; done) | (simp; omega))
                have hz8_4 := (bcell hb8).2.2 (w6.heap.size + 1) (by first | omega | (simp; done) | (simp; omega))
                have HB8 := Lib.hid hb8
                clear hb8
                go_wp2_with fail
                refine (HD.out _ (by repeat' (first | (with_reducible exact Below.refl _ _) | (with_reducible (refine Below.setCell ?_ ?_ _)) | (with_reducible (refine Below.alloc ?_ ?_ _)) | (with_reducible (refine Below.drew ?_)) | (with_reducible (refine below_via ?_ HB8.out ?_)) | (with_reducible (refine below_via ?_ HBB.out ?_)) | omega | (simp; done) | (simp; omega)))).mono ?_
                rintro e w9 ⟨Aw, cw, rfl, hown9, hb9⟩
                have hs9 := hb9.size
                try simp at hs9
                have hc9_0 := fun o => (bcell hb9).1 (wr.heap.size) o (by first | omega | (simp; done) | (simp; omega))
                have hf9_0 := fun o => (bcell hb9).2.1 (wr.heap.size) o (by first | omega | (simp; done) | (simp; omega))
                have hz9_0 := (bcell hb9).2.2 (wr.heap.size) (by first | omega | (simp; done) | (simp; omega))
                have hc9_1 := fun o => (bcell hb9).1 (w2.heap.size) o (by first | omega | (simp; done) | (simp; omega))
                have hf9_1 := fun o => (bcell hb9).2.1 (w2.heap.size) o (by first | omega | (simp; done) | (simp; omega))
                have hz9_1 := (bcell hb9).2.2 (w2.heap.size) (by first | omega | (simp; done) | (simp; omega))
                have hc9_2 := fun o => (bcell hb9).1 (w4.heap.size) o (by first | omega | (simp; done) | (simp; omega))
                have hf9_2 := fun o => (bcell hb9).2.1 (w4.heap.size) o (by first | omega | (simp; done) | (simp; omega))
                have hz9_2 := (bcell hb9).2.2 (w4.heap.size) (by first | omega | (simp; done) | (simp; omega))
                have hc9_3 := fun o => (bcell hb9).1 (w6.heap.size) o (by first | omega | (simp; done) | (simp; omega))
                have hf9_3 := fun o => (bcell hb9).2.1 (w6.heap.size) o (by first | omega | (simp; done) | (simp; omega))
                have hz9_3 := (bcell hb9).2.2 (w6.heap.size) (by first | omega | (simp; done) | (simp; omega))
                have hc9_4 := fun o => (bcell hb9).1 (w6.heap.size + 1) o (by first | omega | (simp; done) | (simp; omega))
                have hf9_4 := fun o => (bcell hb9).2.1 (w6.heap.size + 1) o (by first | omega | (simp; done) | (simp; omega))
                have hz9_4 := (bcell hb9).2.2 (w6.heap.size + 1) (by first | omega | (simp; done) | (simp; omega))
                have HB9 := Lib.hid hb9
                clear hb9
                have Hhown9 := Lib.hid hown9
                clear hown9
                go_wp2_with fail
                obtain ⟨gw, rfl, hgw1, hgw2, hgw3⟩ := Hhown9.out.spot (by rw [HLEN.out]; omega)
                obtain ⟨wp, hwp⟩ : ∃ wp, wp = w9.setCell ⟨w6.heap.size, 0, none⟩ (.slice (some ⟨gw, 0, none⟩) ws0.length cw) := ⟨_, rfl⟩
                have HBP := Lib.hid (show Below w6.heap.size w9 wp by rw [hwp]; exact (Below.refl _ _).setCell (by simp) _)
                have hsp : wp.heap.size = w9.heap.size := by rw [hwp]; exact size_set _ _ _
                have HOP := Lib.hid (show Own wp w8.heap.size wordT 1 wordCells ws (some ⟨gw, 0, none⟩) cw by rw [hwp]; exact (Hhown9.out.set_far (by simp; omega) _).mono (by omega))
                have HPW := Lib.hid (show wp.heap[w6.heap.size]? = some (.cells #[.slice (some ⟨gw, 0, none⟩) ws0.length cw] memT2 (0, 0)) by
                  rw [hwp]; exact (heap_set_same (heap_below_is HB9.out (by omega) (heap_below_is HB8.out (by simp; omega) (heap_old_is _ _ hq3 HYW.out))) 0 _).trans rfl)
                have HPX := Lib.hid (show wp.heap[w6.heap.size + 1]? = some (.cells #[.slice none 0 0] memT2 (0, 0)) by
                  rw [hwp]; exact heap_far_is (by simp) (heap_below_is HB9.out (by omega) (heap_below_is HB8.out (by simp; omega) (heap_old_is _ _ hq4 HYX.out))))
                have HP6 := Lib.hid ((by repeat' (first | (with_reducible exact Below.refl _ _) | (with_reducible (refine Below.setCell ?_ ?_ _)) | (with_reducible (refine Below.alloc ?_ ?_ _)) | (with_reducible (refine Below.drew ?_)) | (with_reducible (refine below_via ?_ HBP.out ?_)) | (with_reducible (refine below_via ?_ HB9.out ?_)) | (with_reducible (refine below_via ?_ HB8.out ?_)) | (with_reducible (refine below_via ?_ HBB.out ?_)) | omega | (simp; done) | (simp; omega))) : Below w6.heap.size w6 wp)
                have HPB := Lib.hid ((by repeat' (first | (with_reducible exact Below.refl _ _) | (with_reducible (refine Below.setCell ?_ ?_ _)) | (with_reducible (refine Below.alloc ?_ ?_ _)) | (with_reducible (refine Below.drew ?_)) | (with_reducible (refine below_via ?_ HBP.out ?_)) | (with_reducible (refine below_via ?_ HB9.out ?_)) | (with_reducible (refine below_via ?_ HB8.out ?_)) | omega | (simp; done) | (simp; omega))) : Below w6.heap.size wb wp)
                rw [← hwp]
                clear hwp hc8_0 hf8_0 hz8_0 hc8_1 hf8_1 hz8_1 hc8_2 hf8_2 hz8_2 hc8_3 hf8_3 hz8_3 hc8_4 hf8_4 hz8_4 hc9_0 hf9_0 hz9_0 hc9_1 hf9_1 hz9_1 hc9_2 hf9_2 hz9_2 hc9_3 hf9_3 hz9_3 hc9_4 hf9_4 hz9_4 i0 m0 x0 y0 p0 p1 p2 p3 p4 xf yf
                have hw8 : wb.heap.size ≤ w8.heap.size := by omega
                have HPM := Lib.hid (heap_below_is HPB.out (show w2.heap.size < w6.heap.size by omega) HYM.out)
                have HPI := Lib.hid (heap_below_is HPB.out (show w4.heap.size < w6.heap.size by omega) HYI.out)
                have HPA := Lib.hid (heap_below_is HPB.out (show wr.heap.size < w6.heap.size by omega) HYA.out)
                have l30 : wr.heap.size < w8.heap.size := by omega
                go_loopw [18] (fun j wr => ∃ m : Nat, m ≤ 8 ∧ j = .int .i64 m ∧ Own wr w8.heap.size wordT 1 wordCells (setAll ws (t * 8) ((frameOf ws f).take m)) (some ⟨gw, 0, none⟩) cw ∧ Below w8.heap.size wp wr) (fun j _ => 8 - (intOf j).toNat)
                case atStart => exact ⟨0, Nat.zero_le _, rfl, HOP.out, Below.refl _ _⟩
                case round =>
                  obtain ⟨m, hm, rfl, hownq, hbq⟩ := hrel
                  have HOQ := Lib.hid hownq
                  have HBQ := Lib.hid hbq
                  have hsq := hbq.size
                  have hgwl := (hownq.block_ rfl).2
                  dsimp only at hgwl
                  clear hownq hbq
                  have x0 := cell_of_row _ _ 0 _ _ _ (heap_below_is HBQ.out (by omega) HPX.out)
                  have y0 := cell_of_row _ _ 0 _ _ _ (heap_below_is HBQ.out (by omega) HPW.out)
                  have m0 := cell_of_row _ _ 0 _ _ _ (heap_below_is HBQ.out (by omega) HPM.out)
                  have i0 := cell_of_row _ _ 0 _ _ _ (heap_below_is HBQ.out (by omega) HPI.out)
                  have p1 := cell_of_row _ _ 1 _ _ _ (heap_below_is HBQ.out (by omega) HPA.out)
                  have p2 := cell_of_row _ _ 2 _ _ _ (heap_below_is HBQ.out (by omega) HPA.out)
                  have xf := frozen_of_row _ _ 0 _ _ (heap_below_is HBQ.out (by omega) HPX.out)
                  have l1 : w6.heap.size < wr.heap.size := by omega
                  have l2 : w2.heap.size < wr.heap.size := by omega
                  have l3 := Nat.lt_of_lt_of_le l30 (show w8.heap.size ≤ wr.heap.size by omega)
                  by_cases hm8 : m < 8
                  · have hfm : f * 8 + m < ws.length := by rw [HLEN.out]; omega
                    obtain ⟨bm, om, rfl, hbm, hcm⟩ := at_cell HTM6.out ((by repeat' (first | (with_reducible exact Below.refl _ _) | (with_reducible (refine Below.setCell ?_ ?_ _)) | (with_reducible (refine Below.alloc ?_ ?_ _)) | (with_reducible (refine Below.drew ?_)) | (with_reducible (refine below_via ?_ HBQ.out ?_)) | (with_reducible (refine below_via ?_ HP6.out ?_)) | omega | (simp; done) | (simp; omega))) : Below w6.heap.size w6 wr) hfm rfl
                    have HXF := Lib.hid (show (frameOf ws f).take (m + 1) = (frameOf ws f).take m ++ [ws[f * 8 + m]] by
                      rw [take_snoc_get _ _ (by rw [HFL.out]; omega)]
                      congr 2
                      simp [frameOf, List.getElem_take, List.getElem_drop])
                    generalize ws[f * 8 + m] = x at *
                    have hq1' : IntKind.i64.wrap ((t : Int) * 8) = (t : Int) * 8 := IntWalk.i64_in _ (by omega)
                    have hq2' : IntKind.i64.wrap ((t : Int) * 8 + (m : Int)) = (t : Int) * 8 + (m : Int) := IntWalk.i64_in _ (by omega)
                    have hq3' : IntKind.i64.wrap ((f : Int) * 8) = (f : Int) * 8 := IntWalk.i64_in _ (by omega)
                    have hq4' : IntKind.i64.wrap ((f : Int) * 8 + (m : Int)) = (f : Int) * 8 + (m : Int) := IntWalk.i64_in _ (by omega)
                    have hq5' : ((t : Int) * 8 + (m : Int)).toNat = t * 8 + m := by omega
                    have hq6' : ((f : Int) * 8 + (m : Int)).toNat = f * 8 + m := by omega
                    have hm0 : (0 : Int) ≤ (t : Int) * 8 + (m : Int) := by omega
                    have hml' : (t : Int) * 8 + (m : Int) < ws0.length := by omega
                    have hm1 : (0 : Int) ≤ (f : Int) * 8 + (m : Int) := by omega
                    have hml2 : (f : Int) * 8 + (m : Int) < ws0.length := by omega
                    have hbm2 : bm < wr.heap.size := by omega
                    have HSL := Lib.hid (show (setAll ws (t * 8) ((frameOf ws f).take m)).length = ws0.length by rw [setAll_len, HLEN.out])
                    have HTL2 := Lib.hid (show ((frameOf ws f).take m).length = m by rw [List.length_take, HFL.out]; omega)
                    go_wp2_with fail
                    refine wp_region_class_tail 16 (fun w' => Below (wr.heap.size) (wr) w') (by kernel_rfl) (by kernel_rfl) (by kernel_rfl) (Below.refl _ _).drew ?_
                    repeat (first
                      | (refine wpLex_pass (by rfl) passes_plain ?_; (conv => arg 9; simp only [put_lit, put_lit_none, List.set]))
                      | (refine wpLex_plain (by rfl) ?_
                         apply Exists.intro
                         refine ⟨?_, ?_⟩
                         · intro w' hb
                           have hsz := hb.size
                           try simp at hsz
                           have hcw := fun b o (h : b < wr.heap.size) => hb.cell (p := ⟨b, o, none⟩) h
                           have hfw := fun b o (h : b < wr.heap.size) => hb.frozen (p := ⟨b, o, none⟩) h
                           go_simp
                           first
                             | exact ⟨rfl, hb⟩
                             | exact rfl
                         conv => arg 9; simp only [put_lit, put_lit_none, List.set]))
                    refine wpLex_nil ?_
                    intro wz hbz
                    have hsz := hbz.size
                    try simp at hsz
                    have hcz := fun b o (h : b < wr.heap.size) => hbz.cell (p := ⟨b, o, none⟩) h
                    have hfz := fun b o (h : b < wr.heap.size) => hbz.frozen (p := ⟨b, o, none⟩) h
                    have HBz := Lib.hid hbz
                    clear hbz
                    simp only [List.drop]
                    have HOZ := Lib.hid (HOQ.out.below HBz.out (Nat.le_refl _))
                    have hgs := (HOZ.out.some_ (t * 8 + m) (by rw [HSL.out]; omega)).1
                    have hgf := (HOZ.out.some_ (t * 8 + m) (by rw [HSL.out]; omega)).2
                    obtain ⟨old, hold⟩ := Option.isSome_iff_exists.1 hgs
                    clear hgs hq1' hq2' hq3' hq4' hcz hfz
                    go_wp2
                    go_roundw
                    case rel =>
                      refine ⟨m + 1, by omega, by go_num, ?_, ?_⟩
                      · rw [HXF.out, setAll_snoc, HTL2.out]
                        exact HOZ.out.set1 word_len (i := t * 8 + m) x (.int .u64 x) rfl
                      · exact (HBQ.out.trans (HBz.out.mono (by omega))).setCell (by simp; omega) _
                    case measure => simp [intOf]; omega
                  · obtain rfl : m = 8 := by omega
                    have HCW := Lib.hid (show setAll ws (t * 8) ((frameOf ws f).take 8) = copied ws f t by rw [List.take_of_length_le (by rw [HFL.out]; omega)]; rfl)
                    have HZL := Lib.hid (show (copied ws f t).length = ws0.length by rw [copied_len, HLEN.out])
                    have HZW := Lib.hid (copied_words (f := f) (t := t) HOK.out)
                    rw [HCW.out] at HOQ
                    clear HCW
                    generalize copied ws f t = wl at *
                    have l4 : w6.heap.size + 1 < wr.heap.size := by omega
                    go_wp2_with fail
                    refine (HC.out _ (by repeat' (first | (with_reducible exact Below.refl _ _) | (with_reducible (refine Below.setCell ?_ ?_ _)) | (with_reducible (refine Below.alloc ?_ ?_ _)) | (with_reducible (refine Below.drew ?_)) | (with_reducible (refine below_via ?_ HBQ.out ?_)) | (with_reducible (refine below_via ?_ HP6.out ?_)) | omega | (simp; done) | (simp; omega)))).mono ?_
                    rintro e w10 ⟨Ax, cx, rfl, hown10, hb10⟩
                    have hs10 := hb10.size
                    try simp at hs10
                    have hc10_0 := fun o => (bcell hb10).1 (w2.heap.size) o (by first | omega | (simp; done) | (simp; omega))
                    have hf10_0 := fun o => (bcell hb10).2.1 (w2.heap.size) o (by first | omega | (simp; done) | (simp; omega))
                    have hz10_0 := (bcell hb10).2.2 (w2.heap.size) (by first | omega | (simp; done) | (simp; omega))
                    have hc10_1 := fun o => (bcell hb10).1 (w4.heap.size) o (by first | omega | (simp; done) | (simp; omega))
                    have hf10_1 := fun o => (bcell hb10).2.1 (w4.heap.size) o (by first | omega | (simp; done) | (simp; omega))
                    have hz10_1 := (bcell hb10).2.2 (w4.heap.size) (by first | omega | (simp; done) | (simp; omega))
                    have hc10_2 := fun o => (bcell hb10).1 (w6.heap.size) o (by first | omega | (simp; done) | (simp; omega))
                    have hf10_2 := fun o => (bcell hb10).2.1 (w6.heap.size) o (by first | omega | (simp; done) | (simp; omega))
                    have hz10_2 := (bcell hb10).2.2 (w6.heap.size) (by first | omega | (simp; done) | (simp; omega))
                    have hc10_3 := fun o => (bcell hb10).1 (w6.heap.size + 1) o (by first | omega | (simp; done) | (simp; omega))
                    have hf10_3 := fun o => (bcell hb10).2.1 (w6.heap.size + 1) o (by first | omega | (simp; done) | (simp; omega))
                    have hz10_3 := (bcell hb10).2.2 (w6.heap.size + 1) (by first | omega | (simp; done) | (simp; omega))
                    have HB10 := Lib.hid hb10
                    clear hb10
                    have Hhown10 := Lib.hid hown10
                    clear hown10
                    go_wp2
                    go_meet
                    have hgw := fun p hp => (HOQ.out.block_ (p := p) hp).2
                    have hbo := HB10.out.size
                    refine asked_yes (B := wr.heap.size) ?_ ?_ ((HOQ.out.below HB10.out (Nat.le_refl _)).set_far (by simp; omega) _) hgw ((Hhown10.out.mono (by omega)).set_far (by simp; omega) _) (by omega) (by simp; omega) (by repeat' (first | (with_reducible exact Below.refl _ _) | (with_reducible (refine Below.setCell ?_ ?_ _)) | (with_reducible (refine Below.alloc ?_ ?_ _)) | (with_reducible (refine Below.drew ?_)) | (with_reducible (refine below_via ?_ HB10.out ?_)) | (with_reducible (refine below_via ?_ HBQ.out ?_)) | (with_reducible (refine below_via ?_ HPB.out ?_)) | omega | (simp; done) | (simp; omega))) HZL.out (by omega) HZW.out
                    · exact heap_far_is (by simp) (heap_below_is HB10.out (by omega) (heap_below_is HBQ.out (by omega) HPW.out))
                    · exact (heap_set_same (heap_below_is HB10.out (by omega) (heap_below_is HBQ.out (by omega) HPX.out)) 0 _).trans rfl
            · as_aux_lemma =>
              have HTH := Lib.hid (fun (L : Option Addr) W (hL : At W L 1 intCells [a1]) => there_any Am L cm 1 ws0.length [a1] W (by omega) (by simp) hL)
              cases ht : thereB ((ws0.length : Int) / 8) [a1]
              · have HC := Lib.hid (fun W => Frame_no Ai ci ws0.length a1 W (by omega) (by rw [askOf, HG.out, if_pos rfl, ht]; decide))
                rw [show askOf ws0.length [a1] = 2 by rw [askOf, HG.out, if_pos rfl, ht]; rfl] at HC
                rw [ht] at HTH
                have HE := Lib.hid (fun W => EqWords_any none none 0 0 [] [] W (by simp) (by simp) At.nil At.nil)
                have HWo := Lib.hid (fun (W : World) => Words_any none 0 W.heap.size [] W (by simp) (Nat.le_refl _) (World.ownsRow_nil _ _ _ _))
                clear ht
                go_wp2_with fail
                refine (HC.out _).mono ?_
                rintro e w8 ⟨rfl, hb8⟩
                have hs8 := hb8.size
                try simp at hs8
                have hc8_0 := fun o => (bcell hb8).1 (wr.heap.size) o (by first | omega | (simp; done) | (simp; omega))
                have hf8_0 := fun o => (bcell hb8).2.1 (wr.heap.size) o (by first | omega | (simp; done) | (simp; omega))
                have hz8_0 := (bcell hb8).2.2 (wr.heap.size) (by first | omega | (simp; done) | (simp; omega))
                have hc8_1 := fun o => (bcell hb8).1 (w2.heap.size) o (by first | omega | (simp; done) | (simp; omega))
                have hf8_1 := fun o => (bcell hb8).2.1 (w2.heap.size) o (by first | omega | (simp; done) | (simp; omega))
                have hz8_1 := (bcell hb8).2.2 (w2.heap.size) (by first | omega | (simp; done) | (simp; omega))
                have HB8 := Lib.hid hb8
                clear hb8
                have hn8 : ¬ wr.heap.size = w8.heap.size := by omega
                have hn82 : ¬ w2.heap.size = w8.heap.size := by omega
                go_wp2_with fail
                refine (HTH.out _ _ (by exact at_new1 _ _ _ _ (by first | rfl | omega | simp) rfl)).mono ?_
                rintro e w9 ⟨rfl, hb9⟩
                have hs9 := hb9.size
                try simp at hs9
                have HB9 := Lib.hid hb9
                clear hb9
                go_wp2_with fail
                refine (HE.out _).mono ?_
                rintro e w10 ⟨rfl, hb10⟩
                have hs10 := hb10.size
                try simp at hs10
                have HB10 := Lib.hid hb10
                clear hb10
                go_wp2_with fail
                refine (HWo.out _).mono ?_
                rintro e w11 ⟨rfl, hb11⟩
                have hs11 := hb11.size
                try simp at hs11
                have HB11 := Lib.hid hb11
                clear hb11
                go_wp2
                go_meet
                exact asked_no (by repeat (first | (with_reducible assumption) | (with_reducible exact HYW.out) | (with_reducible refine heap_below_is HB11.out (by (first | omega | (simp; done) | (simp; omega))) ?_) | (with_reducible refine heap_below_is HB10.out (by (first | omega | (simp; done) | (simp; omega))) ?_) | (with_reducible refine heap_below_is HB9.out (by (first | omega | (simp; done) | (simp; omega))) ?_) | (with_reducible refine heap_below_is HB8.out (by (first | omega | (simp; done) | (simp; omega))) ?_) | (exact heap_at _ _ (by simp; done)) | (with_reducible refine heap_old_is _ _ (by (first | omega | (simp; done) | (simp; omega))) ?_) | (with_reducible refine heap_far_is (by (first | omega | (simp; done) | (simp; omega))) ?_))) (by repeat (first | (with_reducible assumption) | (with_reducible exact HYX.out) | (with_reducible refine heap_below_is HB11.out (by (first | omega | (simp; done) | (simp; omega))) ?_) | (with_reducible refine heap_below_is HB10.out (by (first | omega | (simp; done) | (simp; omega))) ?_) | (with_reducible refine heap_below_is HB9.out (by (first | omega | (simp; done) | (simp; omega))) ?_) | (with_reducible refine heap_below_is HB8.out (by (first | omega | (simp; done) | (simp; omega))) ?_) | (exact heap_at _ _ (by simp; done)) | (with_reducible refine heap_old_is _ _ (by (first | omega | (simp; done) | (simp; omega))) ?_) | (with_reducible refine heap_far_is (by (first | omega | (simp; done) | (simp; omega))) ?_))) (by omega) (by repeat' (first | (with_reducible exact Below.refl _ _) | (with_reducible (refine Below.setCell ?_ ?_ _)) | (with_reducible (refine Below.alloc ?_ ?_ _)) | (with_reducible (refine Below.drew ?_)) | (with_reducible (refine below_via ?_ HB11.out ?_)) | (with_reducible (refine below_via ?_ HB10.out ?_)) | (with_reducible (refine below_via ?_ HB9.out ?_)) | (with_reducible (refine below_via ?_ HB8.out ?_)) | omega | (simp; done) | (simp; omega))) (.inr (.inr rfl))
              · have hk8 := (memOk_spec _).1 HG.out
                obtain ⟨f, hf, hf8⟩ := there_at ht (i := 0) (by simp)
                simp only [List.getElem_cons_zero] at hf
                subst hf
                obtain ⟨bm, om, rfl, hbm, _⟩ := HTM.out (by rw [HLEN.out]; omega)
                have hfl := frame_len ws f (by rw [HLEN.out]; omega)
                have HC := Lib.hid (fun W (hb : Below wb.heap.size wb W) => Frame_yes Ai ci ws f W (by rw [HLEN.out]; omega) (by rw [HLEN.out]; exact HCI.out) (HTI.out.below hb) (by rw [HLEN.out, askOf, HG.out, if_pos rfl, ht]; rfl) (by rw [HLEN.out]; omega))
                rw [HLEN.out] at HC
                rw [ht] at HTH
                have HFC := Lib.hid (show At wb (some ⟨bm, om + f * 8, none⟩) 1 wordCells (frameOf ws f) from by have := HTM.out.cut (f * 8) 8; rwa [Nat.mul_one] at this)
                have HFL := Lib.hid hfl
                generalize frameOf ws f = fr at *
                rw [hfl] at HC
                have HE := Lib.hid (fun (A : Option Addr) (c c2 : Nat) W (hA : At W A 1 wordCells fr) (hb : Below wb.heap.size wb W) => EqWords_any A (some ⟨bm, om + f * 8, none⟩) c c2 fr fr W (by omega) (by omega) hA (HFC.out.below hb))
                rw [show decide (fr = fr) = true by simp] at HE
                rw [hfl] at HE
                have HWo := Lib.hid (fun (A : Option Addr) (c : Nat) (B : Nat) W (hB : B ≤ W.heap.size) (hA : Own W B wordT 1 wordCells fr A c) => Words_any A c B fr W (by omega) hB hA)
                rw [hfl] at HWo
                clear ht hfl
                have hq1' : IntKind.i64.wrap ((f : Int) * 8) = (f : Int) * 8 := IntWalk.i64_in _ (by omega)
                have hq2' : IntKind.i64.wrap ((f : Int) * 8 + 8) = (f : Int) * 8 + 8 := IntWalk.i64_in _ (by omega)
                have hm3 : ((f : Int) * 8).toNat = f * 8 := by omega
                have hm4 : ((f : Int) * 8 + 8).toNat - f * 8 = 8 := by omega
                have hm5 : max ((f : Int) * 8 + 8) 0 = (f : Int) * 8 + 8 := by omega
                have hm0 : (0 : Int) ≤ (f : Int) * 8 := by omega
                have hm0' : (0 : Int) ≤ (f : Int) * 8 + 8 := by omega
                have hm2 : (f : Int) * 8 + 8 ≤ cm := by omega
                have hm6 : ¬ cm = f * 8 := by omega
                have hm7 : (f : Int) * 8 ≤ (f : Int) * 8 + 8 := by omega
                have HQ4 := Lib.hid hm4
                have HQ5 := Lib.hid hm5
                clear hm4 hm5
                have HQ1 := Lib.hid hq1'
                have HQ2 := Lib.hid hq2'
                have HQ3 := Lib.hid hm3
                clear hq1' hq2' hm3
                go_wp2_with fail
                refine (HC.out _ (by repeat' (first | (with_reducible exact Below.refl _ _) | (with_reducible (refine Below.setCell ?_ ?_ _)) | (with_reducible (refine Below.alloc ?_ ?_ _)) | (with_reducible (refine Below.drew ?_)) | omega | (simp; done) | (simp; omega)))).mono ?_
                rintro e w8 ⟨Al, cl2, rfl, hown8, hb8⟩
                have hs8 := hb8.size
                try simp at hs8
                have hc8_0 := fun o => (bcell hb8).1 (wr.heap.size) o (by first | omega | (simp; done) | (simp; omega))
                have hf8_0 := fun o => (bcell hb8).2.1 (wr.heap.size) o (by first | omega | (simp; done) | (simp; omega))
                have hz8_0 := (bcell hb8).2.2 (wr.heap.size) (by first | omega | (simp; done) | (simp; omega))
                have hc8_1 := fun o => (bcell hb8).1 (w2.heap.size) o (by first | omega | (simp; done) | (simp; omega))
                have hf8_1 := fun o => (bcell hb8).2.1 (w2.heap.size) o (by first | omega | (simp; done) | (simp; omega))
                have hz8_1 := (bcell hb8).2.2 (w2.heap.size) (by first | omega | (simp; done) | (simp; omega))
                have HB8 := Lib.hid hb8
                clear hb8
                have Hhown8 := Lib.hid hown8
                clear hown8
                have hn8 : ¬ wr.heap.size = w8.heap.size := by omega
                have hn82 : ¬ w2.heap.size = w8.heap.size := by omega
                go_wp2_with fail
                refine (HTH.out _ _ (by exact at_new1 _ _ _ _ (by first | rfl | omega | simp) rfl)).mono ?_
                rintro e w9 ⟨rfl, hb9⟩
                have hs9 := hb9.size
                try simp at hs9
                have hc9_0 := fun o => (bcell hb9).1 (wr.heap.size) o (by first | omega | (simp; done) | (simp; omega))
                have hf9_0 := fun o => (bcell hb9).2.1 (wr.heap.size) o (by first | omega | (simp; done) | (simp; omega))
                have hz9_0 := (bcell hb9).2.2 (wr.heap.size) (by first | omega | (simp; done) | (simp; omega))
                have hc9_1 := fun o => (bcell hb9).1 (w2.heap.size) o (by first | omega | (simp; done) | (simp; omega))
                have hf9_1 := fun o => (bcell hb9).2.1 (w2.heap.size) o (by first | omega | (simp; done) | (simp; omega))
                have hz9_1 := (bcell hb9).2.2 (w2.heap.size) (by first | omega | (simp; done) | (simp; omega))
                have HB9 := Lib.hid hb9
                clear hb9
                have hq1' := HQ1.out
                have hq2' := HQ2.out
                have hm3 := HQ3.out
                have hm4 := HQ4.out
                have hm5 := HQ5.out
                go_wp2_with fail
                refine wp_region_class (fun w' => Below (w9.heap.size) (w9) w') (by kernel_rfl) (by kernel_rfl) (Below.refl _ _).drew ?_
                repeat (first
                  | (refine wpLex_pass (by rfl) passes_plain ?_; (conv => arg 9; simp only [put_lit, put_lit_none, List.set]))
                  | (refine wpLex_plain (by rfl) ?_
                     apply Exists.intro
                     refine ⟨?_, ?_⟩
                     · intro w' hb
                       have hsz := hb.size
                       try simp at hsz
                       have hcw := fun b o (h : b < w9.heap.size) => hb.cell (p := ⟨b, o, none⟩) h
                       have hfw := fun b o (h : b < w9.heap.size) => hb.frozen (p := ⟨b, o, none⟩) h
                       go_simp
                       first
                         | exact ⟨rfl, hb⟩
                         | exact rfl
                     conv => arg 9; simp only [put_lit, put_lit_none, List.set]))
                refine wpLex_nil ?_
                intro wz hbz
                have hsz := hbz.size
                try simp at hsz
                have hcz := fun b o (h : b < w9.heap.size) => hbz.cell (p := ⟨b, o, none⟩) h
                have hfz := fun b o (h : b < w9.heap.size) => hbz.frozen (p := ⟨b, o, none⟩) h
                have HBz := Lib.hid hbz
                clear hbz
                clear hq1' hq2' hm3 hm4 hm5
                go_wp2_with fail
                refine (HE.out Al cl2 _ _ ((Hhown8.out.at_ word_len).below (by repeat' (first | (with_reducible exact Below.refl _ _) | (with_reducible (refine Below.setCell ?_ ?_ _)) | (with_reducible (refine Below.alloc ?_ ?_ _)) | (with_reducible (refine Below.drew ?_)) | (with_reducible (refine below_via ?_ HBz.out ?_)) | (with_reducible (refine below_via ?_ HB9.out ?_)) | omega | (simp; done) | (simp; omega)))) (by repeat' (first | (with_reducible exact Below.refl _ _) | (with_reducible (refine Below.setCell ?_ ?_ _)) | (with_reducible (refine Below.alloc ?_ ?_ _)) | (with_reducible (refine Below.drew ?_)) | (with_reducible (refine below_via ?_ HBz.out ?_)) | (with_reducible (refine below_via ?_ HB9.out ?_)) | (with_reducible (refine below_via ?_ HB8.out ?_)) | omega | (simp; done) | (simp; omega)))).mono ?_
                rintro e w10 ⟨rfl, hb10⟩
                have hs10 := hb10.size
                try simp at hs10
                have HB10 := Lib.hid hb10
                clear hb10
                go_wp2_with fail
                refine (HWo.out Al cl2 (wb.heap.size + 1) _ (by omega) ((((Hhown8.out.alloc _).below HB9.out (Nat.le_refl _)).below HBz.out (Nat.le_refl _)).below HB10.out (Nat.le_refl _))).mono ?_
                rintro e w11 ⟨rfl, hb11⟩
                have hs11 := hb11.size
                try simp at hs11
                have HB11 := Lib.hid hb11
                clear hb11
                go_wp2
                go_meet
                exact asked_no (by repeat (first | (with_reducible assumption) | (with_reducible exact HYW.out) | (with_reducible refine heap_below_is HB11.out (by (first | omega | (simp; done) | (simp; omega))) ?_) | (with_reducible refine heap_below_is HB10.out (by (first | omega | (simp; done) | (simp; omega))) ?_) | (with_reducible refine heap_below_is HBz.out (by (first | omega | (simp; done) | (simp; omega))) ?_) | (with_reducible refine heap_below_is HB9.out (by (first | omega | (simp; done) | (simp; omega))) ?_) | (with_reducible refine heap_below_is HB8.out (by (first | omega | (simp; done) | (simp; omega))) ?_) | (exact heap_at _ _ (by simp; done)) | (with_reducible refine heap_old_is _ _ (by (first | omega | (simp; done) | (simp; omega))) ?_) | (with_reducible refine heap_far_is (by (first | omega | (simp; done) | (simp; omega))) ?_))) (by repeat (first | (with_reducible assumption) | (with_reducible exact HYX.out) | (with_reducible refine heap_below_is HB11.out (by (first | omega | (simp; done) | (simp; omega))) ?_) | (with_reducible refine heap_below_is HB10.out (by (first | omega | (simp; done) | (simp; omega))) ?_) | (with_reducible refine heap_below_is HBz.out (by (first | omega | (simp; done) | (simp; omega))) ?_) | (with_reducible refine heap_below_is HB9.out (by (first | omega | (simp; done) | (simp; omega))) ?_) | (with_reducible refine heap_below_is HB8.out (by (first | omega | (simp; done) | (simp; omega))) ?_) | (exact heap_at _ _ (by simp; done)) | (with_reducible refine heap_old_is _ _ (by (first | omega | (simp; done) | (simp; omega))) ?_) | (with_reducible refine heap_far_is (by (first | omega | (simp; done) | (simp; omega))) ?_))) (by omega) (by repeat' (first | (with_reducible exact Below.refl _ _) | (with_reducible (refine Below.setCell ?_ ?_ _)) | (with_reducible (refine Below.alloc ?_ ?_ _)) | (with_reducible (refine Below.drew ?_)) | (with_reducible (refine below_via ?_ HB11.out ?_)) | (with_reducible (refine below_via ?_ HB10.out ?_)) | (with_reducible (refine below_via ?_ HBz.out ?_)) | (with_reducible (refine below_via ?_ HB9.out ?_)) | (with_reducible (refine below_via ?_ HB8.out ?_)) | omega | (simp; done) | (simp; omega))) (.inr (.inr rfl))
            · as_aux_lemma =>
              have q4 : (do_ == 4) = false := by simp [h4]
              have q5 : (do_ == 5) = false := by simp [h5]
              have q6 : (do_ == 6) = false := by simp [h6]
              have q7 : (do_ == 7) = false := by simp [h7]
              obtain ⟨r, hr⟩ : ∃ r, placeOf ws0.length a1 a2 = r := ⟨_, rfl⟩
              have HMY := Lib.hid (fun W => refMay_any Am ws0.length cm a1 a2 W (by omega) HAA.out.2.1)
              rw [hr] at HMY
              clear h4 h5 h6 h7
              by_cases hr0 : r = 0
              · subst hr0
                obtain ⟨hsz, hp1, hp2, hp3⟩ := placeOf_zero hr
                obtain ⟨i, hi, x, hia, hx⟩ := place_word (ws := ws) (by rw [HLEN.out]; exact hr)
                have hk8 := (memOk_spec _).1 HG.out
                have HC := Lib.hid (fun W (hb : Below w6.heap.size w6 W) => write_yes Ai ci ws a1 a2 a3 W (by rw [HLEN.out]; omega) (HTI6.out.below hb) HOK.out HAA.out.2.2.2.1 (by rw [HLEN.out]; exact HG.out) hsz hp1 (by rw [HLEN.out]; exact hp2) hp3 i hi hia x hx)
                have HD := Lib.hid (fun W (hb : Below w6.heap.size w6 W) => refWrite_any Am cm ws a1 a2 a3 W (by rw [HLEN.out]; omega) (HTM6.out.below hb) HOK.out hsz hp1 (by rw [HLEN.out]; exact hp2) i hi hia x hx)
                rw [HLEN.out] at HC HD
                have HZL := Lib.hid (show (ws.set i (putOf x (a1 % 8 * 8) (maskOf a2) a3)).length = ws0.length by rw [List.length_set, HLEN.out])
                have HZW := Lib.hid (mem_set_of (i := i) HOK.out (putOf_word x (a1 % 8 * 8) (maskOf a2) a3))
                generalize ws.set i (putOf x (a1 % 8 * 8) (maskOf a2) a3) = wl at *
                clear hr hia hx hp3 hsz hk8
                go_wp2_with fail
                refine (HMY.out _).mono ?_
                rintro e w8 ⟨rfl, hb8⟩
                have hs8 := hb8.size
                try simp at hs8
                have hc8_0 := fun o => (bcell hb8).1 (wr.heap.size) o (by first | omega | (simp; done) | (simp; omega))
                have hf8_0 := fun o => (bcell hb8).2.1 (wr.heap.size) o (by first | omega | (simp; done) | (simp; omega))
                have hz8_0 := (bcell hb8).2.2 (wr.heap.size) (by first | omega | (simp; done) | (simp; omega))
                have hc8_1 := fun o => (bcell hb8).1 (w2.heap.size) o (by first | omega | (simp; done) | (simp; omega))
                have hf8_1 := fun o => (bcell hb8).2.1 (w2.heap.size) o (by first | omega | (simp; done) | (simp; omega))
                have hz8_1 := (bcell hb8).2.2 (w2.heap.size) (by first | omega | (simp; done) | (simp; omega))
                have hc8_2 := fun o => (bcell hb8).1 (w4.heap.size) o (by first | omega | (simp; done) | (simp; omega))
                have hf8_2 := fun o => (bcell hb8).2.1 (w4.heap.size) o (by first | omega | (simp; done) | (simp; omega))
                have hz8_2 := (bcell hb8).2.2 (w4.heap.size) (by first | omega | (simp; done) | (simp; omega))
                have hc8_3 := fun o => (bcell hb8).1 (w6.heap.size) o (by first | omega | (simp; done) | (simp; omega))
                have hf8_3 := fun o => (bcell hb8).2.1 (w6.heap.size) o (by first | omega | (simp; done) | (simp; omega))
                have hz8_3 := (bcell hb8).2.2 (w6.heap.size) (by first | omega | (simp; done) | (simp; omega))
                have hc8_4 := fun o => (bcell hb8).1 (w6.heap.size + 1) o (by first | omega | (simp; done) | (simp; omega))
                have hf8_4 := fun o => (bcell hb8).2.1 (w6.heap.size + 1) o (by first | omega | (simp; done) | (simp; omega))
                have hz8_4 := (bcell hb8).2.2 (w6.heap.size + 1) (by first | omega | (simp; done) | (simp; omega))
                have HB8 := Lib.hid hb8
                clear hb8
                go_wp2_with fail
                refine (HD.out _ (by repeat' (first | (with_reducible exact Below.refl _ _) | (with_reducible (refine Below.setCell ?_ ?_ _)) | (with_reducible (refine Below.alloc ?_ ?_ _)) | (with_reducible (refine Below.drew ?_)) | (with_reducible (refine below_via ?_ HB8.out ?_)) | (with_reducible (refine below_via ?_ HBB.out ?_)) | omega | (simp; done) | (simp; omega)))).mono ?_
                rintro e w9 ⟨Aw, cw, rfl, hown9, hb9⟩
                have hs9 := hb9.size
                try simp at hs9
                have hc9_0 := fun o => (bcell hb9).1 (wr.heap.size) o (by first | omega | (simp; done) | (simp; omega))
                have hf9_0 := fun o => (bcell hb9).2.1 (wr.heap.size) o (by first | omega | (simp; done) | (simp; omega))
                have hz9_0 := (bcell hb9).2.2 (wr.heap.size) (by first | omega | (simp; done) | (simp; omega))
                have hc9_1 := fun o => (bcell hb9).1 (w2.heap.size) o (by first | omega | (simp; done) | (simp; omega))
                have hf9_1 := fun o => (bcell hb9).2.1 (w2.heap.size) o (by first | omega | (simp; done) | (simp; omega))
                have hz9_1 := (bcell hb9).2.2 (w2.heap.size) (by first | omega | (simp; done) | (simp; omega))
                have hc9_2 := fun o => (bcell hb9).1 (w4.heap.size) o (by first | omega | (simp; done) | (simp; omega))
                have hf9_2 := fun o => (bcell hb9).2.1 (w4.heap.size) o (by first | omega | (simp; done) | (simp; omega))
                have hz9_2 := (bcell hb9).2.2 (w4.heap.size) (by first | omega | (simp; done) | (simp; omega))
                have hc9_3 := fun o => (bcell hb9).1 (w6.heap.size) o (by first | omega | (simp; done) | (simp; omega))
                have hf9_3 := fun o => (bcell hb9).2.1 (w6.heap.size) o (by first | omega | (simp; done) | (simp; omega))
                have hz9_3 := (bcell hb9).2.2 (w6.heap.size) (by first | omega | (simp; done) | (simp; omega))
                have hc9_4 := fun o => (bcell hb9).1 (w6.heap.size + 1) o (by first | omega | (simp; done) | (simp; omega))
                have hf9_4 := fun o => (bcell hb9).2.1 (w6.heap.size + 1) o (by first | omega | (simp; done) | (simp; omega))
                have hz9_4 := (bcell hb9).2.2 (w6.heap.size + 1) (by first | omega | (simp; done) | (simp; omega))
                have HB9 := Lib.hid hb9
                clear hb9
                have Hhown9 := Lib.hid hown9
                clear hown9
                go_wp2_with fail
                refine (HC.out _ (by repeat' (first | (with_reducible exact Below.refl _ _) | (with_reducible (refine Below.setCell ?_ ?_ _)) | (with_reducible (refine Below.alloc ?_ ?_ _)) | (with_reducible (refine Below.drew ?_)) | (with_reducible (refine below_via ?_ HB9.out ?_)) | (with_reducible (refine below_via ?_ HB8.out ?_)) | (with_reducible (refine below_via ?_ HBB.out ?_)) | omega | (simp; done) | (simp; omega)))).mono ?_
                rintro e w10 ⟨Ax, cx, rfl, hown10, hb10⟩
                have hs10 := hb10.size
                try simp at hs10
                have hc10_0 := fun o => (bcell hb10).1 (wr.heap.size) o (by first | omega | (simp; done) | (simp; omega))
                have hf10_0 := fun o => (bcell hb10).2.1 (wr.heap.size) o (by first | omega | (simp; done) | (simp; omega))
                have hz10_0 := (bcell hb10).2.2 (wr.heap.size) (by first | omega | (simp; done) | (simp; omega))
                have hc10_1 := fun o => (bcell hb10).1 (w2.heap.size) o (by first | omega | (simp; done) | (simp; omega))
                have hf10_1 := fun o => (bcell hb10).2.1 (w2.heap.size) o (by first | omega | (simp; done) | (simp; omega))
                have hz10_1 := (bcell hb10).2.2 (w2.heap.size) (by first | omega | (simp; done) | (simp; omega))
                have hc10_2 := fun o => (bcell hb10).1 (w4.heap.size) o (by first | omega | (simp; done) | (simp; omega))
                have hf10_2 := fun o => (bcell hb10).2.1 (w4.heap.size) o (by first | omega | (simp; done) | (simp; omega))
                have hz10_2 := (bcell hb10).2.2 (w4.heap.size) (by first | omega | (simp; done) | (simp; omega))
                have hc10_3 := fun o => (bcell hb10).1 (w6.heap.size) o (by first | omega | (simp; done) | (simp; omega))
                have hf10_3 := fun o => (bcell hb10).2.1 (w6.heap.size) o (by first | omega | (simp; done) | (simp; omega))
                have hz10_3 := (bcell hb10).2.2 (w6.heap.size) (by first | omega | (simp; done) | (simp; omega))
                have hc10_4 := fun o => (bcell hb10).1 (w6.heap.size + 1) o (by first | omega | (simp; done) | (simp; omega))
                have hf10_4 := fun o => (bcell hb10).2.1 (w6.heap.size + 1) o (by first | omega | (simp; done) | (simp; omega))
                have hz10_4 := (bcell hb10).2.2 (w6.heap.size + 1) (by first | omega | (simp; done) | (simp; omega))
                have HB10 := Lib.hid hb10
                clear hb10
                have Hhown10 := Lib.hid hown10
                clear hown10
                go_wp2
                go_meet
                have hgw := fun p hp => (Hhown9.out.block_ (p := p) hp).2
                have hbo := HB10.out.size
                refine asked_yes (B := w9.heap.size) ?_ ?_ (((Hhown9.out.set_far (by simp; omega) _).below HB10.out (by simp)).set_far (by simp; omega) _) hgw ((Hhown10.out.mono (by simp)).set_far (by simp; omega) _) (by omega) (by simp; omega) (by repeat' (first | (with_reducible exact Below.refl _ _) | (with_reducible (refine Below.setCell ?_ ?_ _)) | (with_reducible (refine Below.alloc ?_ ?_ _)) | (with_reducible (refine Below.drew ?_)) | (with_reducible (refine below_via ?_ HB10.out ?_)) | (with_reducible (refine below_via ?_ HB9.out ?_)) | (with_reducible (refine below_via ?_ HB8.out ?_)) | omega | (simp; done) | (simp; omega))) HZL.out (by omega) HZW.out
                · exact heap_far_is (by simp) (heap_below_is HB10.out (by simp; omega) ((heap_set_same (heap_below_is HB9.out (by omega) (heap_below_is HB8.out hq3 HYW.out)) 0 _).trans rfl))
                · exact (heap_set_same (heap_below_is HB10.out (by simp; omega) (heap_far_is (by simp) (heap_below_is HB9.out (by omega) (heap_below_is HB8.out hq4 HYX.out)))) 0 _).trans rfl
              · have HC := Lib.hid (fun W => write_no Ai ws0.length ci a1 a2 a3 r W (by omega) HAA.out.2.1 (by rw [HG.out, if_pos rfl, hr]) hr0)
                have hrb : (r == 0) = false := by simp [hr0]
                have HR0 := Lib.hid hr0
                clear hr hr0
                go_wp2_with fail
                refine (HMY.out _).mono ?_
                rintro e w8 ⟨rfl, hb8⟩
                have hs8 := hb8.size
                try simp at hs8
                have hc8_0 := fun o => (bcell hb8).1 (wr.heap.size) o (by first | omega | (simp; done) | (simp; omega))
                have hf8_0 := fun o => (bcell hb8).2.1 (wr.heap.size) o (by first | omega | (simp; done) | (simp; omega))
                have hz8_0 := (bcell hb8).2.2 (wr.heap.size) (by first | omega | (simp; done) | (simp; omega))
                have hc8_1 := fun o => (bcell hb8).1 (w2.heap.size) o (by first | omega | (simp; done) | (simp; omega))
                have hf8_1 := fun o => (bcell hb8).2.1 (w2.heap.size) o (by first | omega | (simp; done) | (simp; omega))
                have hz8_1 := (bcell hb8).2.2 (w2.heap.size) (by first | omega | (simp; done) | (simp; omega))
                have hc8_2 := fun o => (bcell hb8).1 (w4.heap.size) o (by first | omega | (simp; done) | (simp; omega))
                have hf8_2 := fun o => (bcell hb8).2.1 (w4.heap.size) o (by first | omega | (simp; done) | (simp; omega))
                have hz8_2 := (bcell hb8).2.2 (w4.heap.size) (by first | omega | (simp; done) | (simp; omega))
                have hc8_3 := fun o => (bcell hb8).1 (w6.heap.size) o (by first | omega | (simp; done) | (simp; omega))
                have hf8_3 := fun o => (bcell hb8).2.1 (w6.heap.size) o (by first | omega | (simp; done) | (simp; omega))
                have hz8_3 := (bcell hb8).2.2 (w6.heap.size) (by first | omega | (simp; done) | (simp; omega))
                have hc8_4 := fun o => (bcell hb8).1 (w6.heap.size + 1) o (by first | omega | (simp; done) | (simp; omega))
                have hf8_4 := fun o => (bcell hb8).2.1 (w6.heap.size + 1) o (by first | omega | (simp; done) | (simp; omega))
                have hz8_4 := (bcell hb8).2.2 (w6.heap.size + 1) (by first | omega | (simp; done) | (simp; omega))
                have HB8 := Lib.hid hb8
                clear hb8
                go_wp2_with fail
                refine (HC.out _).mono ?_
                rintro e w9 ⟨rfl, hb9⟩
                have hs9 := hb9.size
                try simp at hs9
                have hc9_0 := fun o => (bcell hb9).1 (wr.heap.size) o (by first | omega | (simp; done) | (simp; omega))
                have hf9_0 := fun o => (bcell hb9).2.1 (wr.heap.size) o (by first | omega | (simp; done) | (simp; omega))
                have hz9_0 := (bcell hb9).2.2 (wr.heap.size) (by first | omega | (simp; done) | (simp; omega))
                have hc9_1 := fun o => (bcell hb9).1 (w2.heap.size) o (by first | omega | (simp; done) | (simp; omega))
                have hf9_1 := fun o => (bcell hb9).2.1 (w2.heap.size) o (by first | omega | (simp; done) | (simp; omega))
                have hz9_1 := (bcell hb9).2.2 (w2.heap.size) (by first | omega | (simp; done) | (simp; omega))
                have hc9_2 := fun o => (bcell hb9).1 (w4.heap.size) o (by first | omega | (simp; done) | (simp; omega))
                have hf9_2 := fun o => (bcell hb9).2.1 (w4.heap.size) o (by first | omega | (simp; done) | (simp; omega))
                have hz9_2 := (bcell hb9).2.2 (w4.heap.size) (by first | omega | (simp; done) | (simp; omega))
                have hc9_3 := fun o => (bcell hb9).1 (w6.heap.size) o (by first | omega | (simp; done) | (simp; omega))
                have hf9_3 := fun o => (bcell hb9).2.1 (w6.heap.size) o (by first | omega | (simp; done) | (simp; omega))
                have hz9_3 := (bcell hb9).2.2 (w6.heap.size) (by first | omega | (simp; done) | (simp; omega))
                have hc9_4 := fun o => (bcell hb9).1 (w6.heap.size + 1) o (by first | omega | (simp; done) | (simp; omega))
                have hf9_4 := fun o => (bcell hb9).2.1 (w6.heap.size + 1) o (by first | omega | (simp; done) | (simp; omega))
                have hz9_4 := (bcell hb9).2.2 (w6.heap.size + 1) (by first | omega | (simp; done) | (simp; omega))
                have HB9 := Lib.hid hb9
                clear hb9
                go_wp2
                go_meet
                exact asked_no (by repeat (first | (with_reducible assumption) | (with_reducible exact HYW.out) | (with_reducible refine heap_below_is HB9.out (by (first | omega | (simp; done) | (simp; omega))) ?_) | (with_reducible refine heap_below_is HB8.out (by (first | omega | (simp; done) | (simp; omega))) ?_) | (exact heap_at _ _ (by simp; done)) | (with_reducible refine heap_old_is _ _ (by (first | omega | (simp; done) | (simp; omega))) ?_) | (with_reducible refine heap_far_is (by (first | omega | (simp; done) | (simp; omega))) ?_))) (by exact (heap_set_same (heap_below_is HB9.out (by omega) (heap_below_is HB8.out hq4 HYX.out)) 0 _).trans rfl) (by simp; omega) (by repeat' (first | (with_reducible exact Below.refl _ _) | (with_reducible (refine Below.setCell ?_ ?_ _)) | (with_reducible (refine Below.alloc ?_ ?_ _)) | (with_reducible (refine Below.drew ?_)) | (with_reducible (refine below_via ?_ HB9.out ?_)) | (with_reducible (refine below_via ?_ HB8.out ?_)) | omega | (simp; done) | (simp; omega))) (.inl HR0.out)
          case rest => as_aux_lemma =>
            obtain ⟨bad, wl, Aw, Ax, cw, cx, B, rfl, rfl, hwn, hwy, hwx, hwat, hown, hB1, hB2, hbl, hfin⟩ := hcut
            have HCI := Lib.hid (heap_below_is hbl (show w4.heap.size < w6.heap.size by omega) HYI.out)
            have HCM2 := Lib.hid (heap_below_is hbl (show w2.heap.size < w6.heap.size by omega) HYM.out)
            have HCW := Lib.hid hwy
            have HCX := Lib.hid hwx
            have HWAT := Lib.hid hwat
            have HOWN := Lib.hid hown
            have HBL := Lib.hid hbl
            have HFIN := Lib.hid hfin
            have hsc := hbl.size
            have HEX := Lib.hid (fun W (hb : Below wc.heap.size wc W) => EqMem_any Ax Aw cx cw wl wl W (by omega) (by omega) ((HOWN.out.at_ word_len).below hb) ((HWAT.out _ (Below.refl _ _)).below hb))
            rw [show decide (wl = wl) = true by simp] at HEX
            have HEI := Lib.hid (fun W (hb : Below w6.heap.size w6 W) => EqMem_any Ai Am ci cm ws ws W (by rw [HLEN.out]; omega) (by rw [HLEN.out]; omega) (HTI6.out.below hb) (HTM6.out.below hb))
            rw [HLEN.out, show decide (ws = ws) = true by simp] at HEI
            have HWo := Lib.hid (fun W (hb : Below wc.heap.size wc W) => Words_any Ax cx B wl W (by omega) (Nat.le_trans hB2 hb.size) (HOWN.out.below hb (Nat.le_refl _)))
            clear hwy hwx hwat hown hbl hfin i0 m0 x0 y0 p0 p1 p2 p3 p4 xf yf
            have i0 := cell_of_row _ _ 0 _ _ _ HCI.out
            have m0 := cell_of_row _ _ 0 _ _ _ HCM2.out
            have x0 := cell_of_row _ _ 0 _ _ _ HCX.out
            have y0 := cell_of_row _ _ 0 _ _ _ HCW.out
            have mf := frozen_of_row _ _ 0 _ _ HCM2.out
            have hbb : (bad != bad) = false := by simp
            have b1 : w4.heap.size < B := by omega
            have b2 : w2.heap.size < B := by omega
            have b3 : w6.heap.size < B := by omega
            have b4 : w6.heap.size + 1 < B := by omega
            have r1 : w4.heap.size < wc.heap.size := by omega
            have r2 : w2.heap.size < wc.heap.size := by omega
            have r3 : w6.heap.size < wc.heap.size := by omega
            have r4 : w6.heap.size + 1 < wc.heap.size := by omega
            go_wp2_with (go_at_call 11; refine (HNU.out _ _).mono ?_; rintro e w' ⟨rfl, rfl⟩)
            refine (HEX.out _ (by repeat' (first | (with_reducible exact Below.refl _ _) | (with_reducible (refine Below.setCell ?_ ?_ _)) | (with_reducible (refine Below.alloc ?_ ?_ _)) | (with_reducible (refine Below.drew ?_)) | omega | (simp; done) | (simp; omega)))).mono ?_
            rintro e w9 ⟨rfl, hb9⟩
            have hs9 := hb9.size
            try simp at hs9
            have hc9_0 := fun o => (bcell hb9).1 (w4.heap.size) o (by first | omega | (simp; done) | (simp; omega))
            have hf9_0 := fun o => (bcell hb9).2.1 (w4.heap.size) o (by first | omega | (simp; done) | (simp; omega))
            have hz9_0 := (bcell hb9).2.2 (w4.heap.size) (by first | omega | (simp; done) | (simp; omega))
            have hc9_1 := fun o => (bcell hb9).1 (w2.heap.size) o (by first | omega | (simp; done) | (simp; omega))
            have hf9_1 := fun o => (bcell hb9).2.1 (w2.heap.size) o (by first | omega | (simp; done) | (simp; omega))
            have hz9_1 := (bcell hb9).2.2 (w2.heap.size) (by first | omega | (simp; done) | (simp; omega))
            have hc9_2 := fun o => (bcell hb9).1 (w6.heap.size) o (by first | omega | (simp; done) | (simp; omega))
            have hf9_2 := fun o => (bcell hb9).2.1 (w6.heap.size) o (by first | omega | (simp; done) | (simp; omega))
            have hz9_2 := (bcell hb9).2.2 (w6.heap.size) (by first | omega | (simp; done) | (simp; omega))
            have hc9_3 := fun o => (bcell hb9).1 (w6.heap.size + 1) o (by first | omega | (simp; done) | (simp; omega))
            have hf9_3 := fun o => (bcell hb9).2.1 (w6.heap.size + 1) o (by first | omega | (simp; done) | (simp; omega))
            have hz9_3 := (bcell hb9).2.2 (w6.heap.size + 1) (by first | omega | (simp; done) | (simp; omega))
            have HB9 := Lib.hid hb9
            clear hb9
            go_wp2_with fail
            refine (HEI.out _ (by repeat' (first | (with_reducible exact Below.refl _ _) | (with_reducible (refine Below.setCell ?_ ?_ _)) | (with_reducible (refine Below.alloc ?_ ?_ _)) | (with_reducible (refine Below.drew ?_)) | (with_reducible (refine below_via ?_ HB9.out ?_)) | (with_reducible (refine below_via ?_ HBL.out ?_)) | (with_reducible (refine below_via ?_ HBB.out ?_)) | omega | (simp; done) | (simp; omega)))).mono ?_
            rintro e w10 ⟨rfl, hb10⟩
            have hs10 := hb10.size
            try simp at hs10
            have hc10_0 := fun o => (bcell hb10).1 (w4.heap.size) o (by first | omega | (simp; done) | (simp; omega))
            have hf10_0 := fun o => (bcell hb10).2.1 (w4.heap.size) o (by first | omega | (simp; done) | (simp; omega))
            have hz10_0 := (bcell hb10).2.2 (w4.heap.size) (by first | omega | (simp; done) | (simp; omega))
            have hc10_1 := fun o => (bcell hb10).1 (w2.heap.size) o (by first | omega | (simp; done) | (simp; omega))
            have hf10_1 := fun o => (bcell hb10).2.1 (w2.heap.size) o (by first | omega | (simp; done) | (simp; omega))
            have hz10_1 := (bcell hb10).2.2 (w2.heap.size) (by first | omega | (simp; done) | (simp; omega))
            have hc10_2 := fun o => (bcell hb10).1 (w6.heap.size) o (by first | omega | (simp; done) | (simp; omega))
            have hf10_2 := fun o => (bcell hb10).2.1 (w6.heap.size) o (by first | omega | (simp; done) | (simp; omega))
            have hz10_2 := (bcell hb10).2.2 (w6.heap.size) (by first | omega | (simp; done) | (simp; omega))
            have hc10_3 := fun o => (bcell hb10).1 (w6.heap.size + 1) o (by first | omega | (simp; done) | (simp; omega))
            have hf10_3 := fun o => (bcell hb10).2.1 (w6.heap.size + 1) o (by first | omega | (simp; done) | (simp; omega))
            have hz10_3 := (bcell hb10).2.2 (w6.heap.size + 1) (by first | omega | (simp; done) | (simp; omega))
            have HB10 := Lib.hid hb10
            clear hb10
            go_wp2_with fail
            refine (HWo.out _ (by repeat' (first | (with_reducible exact Below.refl _ _) | (with_reducible (refine Below.setCell ?_ ?_ _)) | (with_reducible (refine Below.alloc ?_ ?_ _)) | (with_reducible (refine Below.drew ?_)) | (with_reducible (refine below_via ?_ HB10.out ?_)) | (with_reducible (refine below_via ?_ HB9.out ?_)) | omega | (simp; done) | (simp; omega)))).mono ?_
            rintro e w11 ⟨rfl, hb11⟩
            have hs11 := hb11.size
            try simp at hs11
            have HB11 := Lib.hid hb11
            clear hb11
            have hc11 := fun b o (h : b < B) => HB11.out.cell (p := ⟨b, o, none⟩) h
            have hf11 := fun b o (h : b < B) => HB11.out.frozen (p := ⟨b, o, none⟩) h
            go_wp2_with fail
            refine (HEI.out _ (by repeat' (first | (with_reducible exact Below.refl _ _) | (with_reducible (refine Below.setCell ?_ ?_ _)) | (with_reducible (refine Below.alloc ?_ ?_ _)) | (with_reducible (refine Below.drew ?_)) | (with_reducible (refine below_via ?_ HB11.out ?_)) | (with_reducible (refine below_via ?_ HB10.out ?_)) | (with_reducible (refine below_via ?_ HB9.out ?_)) | (with_reducible (refine below_via ?_ HBL.out ?_)) | (with_reducible (refine below_via ?_ HBB.out ?_)) | omega | (simp; done) | (simp; omega)))).mono ?_
            rintro e w12 ⟨rfl, hb12⟩
            have hs12 := hb12.size
            try simp at hs12
            have HB12 := Lib.hid hb12
            clear hb12
            have HB12' := Lib.hid ((by repeat' (first | (with_reducible exact Below.refl _ _) | (with_reducible (refine Below.setCell ?_ ?_ _)) | (with_reducible (refine Below.alloc ?_ ?_ _)) | (with_reducible (refine Below.drew ?_)) | (with_reducible (refine below_via ?_ HB12.out ?_)) | (with_reducible (refine below_via ?_ HB11.out ?_)) | (with_reducible (refine below_via ?_ HB10.out ?_)) | (with_reducible (refine below_via ?_ HB9.out ?_)) | omega | (simp; done) | (simp; omega))) : Below B wc w12)
            have HBZ := Lib.hid ((by repeat' (first | (with_reducible exact Below.refl _ _) | (with_reducible (refine Below.setCell ?_ ?_ _)) | (with_reducible (refine Below.alloc ?_ ?_ _)) | (with_reducible (refine Below.drew ?_)) | (with_reducible (refine below_via ?_ HB12'.out ?_)) | (with_reducible (refine below_via ?_ HBL.out ?_)) | (with_reducible (refine below_via ?_ HBR2.out ?_)) | (with_reducible (refine below_via ?_ HBW.out ?_)) | omega | (simp; done) | (simp; omega))) : Below w2.heap.size w2 w12)
            have hs12 := HB12'.out.size
            clear hc9_0 hf9_0 hz9_0 hc9_1 hf9_1 hz9_1 hc9_2 hf9_2 hz9_2 hc9_3 hf9_3 hz9_3 hc10_0 hf10_0 hz10_0 hc10_1 hf10_1 hz10_1 hc10_2 hf10_2 hz10_2 hc10_3 hf10_3 hz10_3 hc11 hf11 i0 m0 x0 y0 mf
            have y0 := cell_of_row _ _ 0 _ _ _ (heap_below_is HB12'.out b3 HCW.out)
            have m0 := cell_of_row _ _ 0 _ _ _ (heap_below_is HB12'.out b2 HCM2.out)
            have mf := frozen_of_row _ _ 0 _ _ (heap_below_is HB12'.out b2 HCM2.out)
            have b5 : w2.heap.size < w12.heap.size := by omega
            by_cases hz : bad = 0
            · subst hz
              by_cases hd4 : do_ = 4
              · subst hd4; as_aux_lemma =>
                go_wp2
                go_roundw
                case rel => exact ⟨k + 1, ws, Am, cm, by omega, by omega, by go_num, HLEN.out, HOK.out, heap_below_is HB12'.out b2 HCM2.out, HTM6.out.below (by repeat' (first | (with_reducible exact Below.refl _ _) | (with_reducible (refine Below.setCell ?_ ?_ _)) | (with_reducible (refine Below.alloc ?_ ?_ _)) | (with_reducible (refine Below.drew ?_)) | (with_reducible (refine below_via ?_ HB12'.out ?_)) | (with_reducible (refine below_via ?_ HBL.out ?_)) | (with_reducible (refine below_via ?_ HBB.out ?_)) | omega | (simp; done) | (simp; omega))), hcap, HBZ.out⟩
                case measure => simp [intOf]; omega
              · by_cases hd7 : do_ = 7
                · subst hd7
                  go_wp2
                  go_roundw
                  case rel => exact ⟨k + 1, ws, Am, cm, by omega, by omega, by go_num, HLEN.out, HOK.out, heap_below_is HB12'.out b2 HCM2.out, HTM6.out.below (by repeat' (first | (with_reducible exact Below.refl _ _) | (with_reducible (refine Below.setCell ?_ ?_ _)) | (with_reducible (refine Below.alloc ?_ ?_ _)) | (with_reducible (refine Below.drew ?_)) | (with_reducible (refine below_via ?_ HB12'.out ?_)) | (with_reducible (refine below_via ?_ HBL.out ?_)) | (with_reducible (refine below_via ?_ HBB.out ?_)) | omega | (simp; done) | (simp; omega))), hcap, HBZ.out⟩
                  case measure => simp [intOf]; omega
                · have q4 : (do_ != 4) = true := by simp [hd4]
                  have q7 : (do_ != 7) = true := by simp [hd7]
                  obtain ⟨hwl, hwok⟩ := HFIN.out rfl hd4 hd7
                  have HWL := Lib.hid hwl
                  have HCP3 := Lib.hid (fun W (hb : Below B wc W) => CopyMem_any Aw cw wl W (by omega) (HWAT.out _ hb))
                  clear hwl hd4 hd7
                  go_wp2_with fail
                  refine (HCP3.out _ HB12'.out).mono ?_
                  rintro e w13 ⟨An, cn, rfl, hown13, hb13⟩
                  have hs13 := hb13.size
                  try simp at hs13
                  have hc13_0 := fun o => (bcell hb13).1 (w2.heap.size) o (by first | omega | (simp; done) | (simp; omega))
                  have hf13_0 := fun o => (bcell hb13).2.1 (w2.heap.size) o (by first | omega | (simp; done) | (simp; omega))
                  have hz13_0 := (bcell hb13).2.2 (w2.heap.size) (by first | omega | (simp; done) | (simp; omega))
                  have HB13 := Lib.hid hb13
                  clear hb13
                  have Hhown13 := Lib.hid hown13
                  clear hown13
                  go_wp2
                  go_roundw
                  case rel => exact ⟨k + 1, wl, An, cn, by omega, by omega, by go_num, HWL.out, hwok, by rw [← HWL.out]; exact (heap_set_same (heap_below_is HB13.out b5 (heap_below_is HB12'.out b2 HCM2.out)) 0 _).trans rfl, (Hhown13.out.set_far (by simp; omega) _).at_ word_len, by rw [← HWL.out]; exact Hhown13.out.cap_, (HBZ.out.trans (HB13.out.mono (by omega))).setCell (by simp) _⟩
                  case measure => simp [intOf]; omega
            · have hz0 : (bad == 0) = false := by simp [hz]
              clear hz
              go_wp2
              go_roundw
              case rel => exact ⟨k + 1, ws, Am, cm, by omega, by omega, by go_num, HLEN.out, HOK.out, heap_below_is HB12'.out b2 HCM2.out, HTM6.out.below (by repeat' (first | (with_reducible exact Below.refl _ _) | (with_reducible (refine Below.setCell ?_ ?_ _)) | (with_reducible (refine Below.alloc ?_ ?_ _)) | (with_reducible (refine Below.drew ?_)) | (with_reducible (refine below_via ?_ HB12'.out ?_)) | (with_reducible (refine below_via ?_ HBL.out ?_)) | (with_reducible (refine below_via ?_ HBB.out ?_)) | omega | (simp; done) | (simp; omega))), hcap, HBZ.out⟩
              case measure => simp [intOf]; omega
      · as_aux_lemma =>
        have e1 := cell_of_row _ _ 1 _ _ _ (heap_below_is HBW.out hx2 HX.out)
        by_cases hka : k < acts.length
        · obtain rfl : k = 15 := by omega
          have hki : (15 : Int) < acts.length := by omega
          go_wp2_with (go_at_call 15; refine (HWA.out _).mono ?_; rintro e w5 ⟨rfl, hb5⟩; have hs5 := hb5.size; (try simp at hs5); have HB5 := Lib.hid hb5; clear hb5)
          go_ret
          exact ⟨rfl, (by repeat' (first | (with_reducible exact Below.refl _ _) | (with_reducible (refine Below.setCell ?_ ?_ _)) | (with_reducible (refine Below.alloc ?_ ?_ _)) | (with_reducible (refine Below.drew ?_)) | (with_reducible (refine below_via ?_ HB5.out ?_)) | (with_reducible (refine below_via ?_ HBW.out ?_)) | (with_reducible (refine below_via ?_ HB.out ?_)) | omega | (simp; done) | (simp; omega)))⟩
        · have hki : ¬ (k : Int) < acts.length := by omega
          go_wp2_with (go_at_call 15; refine (HWA.out _).mono ?_; rintro e w5 ⟨rfl, hb5⟩; have hs5 := hb5.size; (try simp at hs5); have HB5 := Lib.hid hb5; clear hb5)
          go_ret
          exact ⟨rfl, (by repeat' (first | (with_reducible exact Below.refl _ _) | (with_reducible (refine Below.setCell ?_ ?_ _)) | (with_reducible (refine Below.alloc ?_ ?_ _)) | (with_reducible (refine Below.drew ?_)) | (with_reducible (refine below_via ?_ HB5.out ?_)) | (with_reducible (refine below_via ?_ HBW.out ?_)) | (with_reducible (refine below_via ?_ HB.out ?_)) | omega | (simp; done) | (simp; omega)))⟩

end Go.Proofs.Ytipepkmmjdlpoaa
