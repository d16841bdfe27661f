/-
  Descriptors and words of stage 2 and one level are what the page says, there and back. Conditions: the asks read as such.
-/
import Derived.Test.YtiapjaaaoeoaeaaDescQ
import Derived.Deep.CutRange
namespace Go.Proofs.Ytiapjaaaoeoaeaa
open Go.RowKit

set_option maxRecDepth 100000 in
set_option maxHeartbeats 16000000 in
theorem at2_any (s : Sl AskD) (lv : Int) (hl0 : 0 ≤ lv) (hl1 : lv ≤ 3) (w : World) (hs : AsksAt w s) :
    Calls Try.prog 30 #[.slice s.addr s.list.length s.cap, .int .i64 2, .int .i64 lv] w fun e w' => e = .returned (.bool true) ∧ Below w.heap.size w w' := by
  obtain ⟨hn, hA, hok⟩ := hs
  obtain ⟨A, c, asks⟩ := s
  dsimp only at *
  have HA := Lib.hid hA
  have HQ := Lib.hid hok
  have HNU := Lib.hid (fun n W => dnum_any n W)
  have HWK := Lib.hid (fun W => wakes_any W)
  have HPL := Lib.hid (show placeOk 2 lv = true by unfold placeOk; simp; omega)
  have HCV := Lib.hid (fun W => rcovers_any lv hl0 hl1 W)
  have HPG := Lib.hid (fun n W => page_any n W)
  have hcv0 : 0 < coversOf lv := covers_pos _
  have hcv1 : coversOf lv ≤ 512 := covers_le _ (by unfold bitsOf; omega)
  clear hA hok
  generalize coversOf lv = cv at *
  have hcv2 : ¬ cv = 0 := by omega
  have hcv3 : (cv == 0) = false := by simpa using hcv2
  go_enter Try.func30, Try.ntmps30
  go_wp2
  go_loopg [7] asks.length (fun g i wr => ∃ k : Nat, k ≤ asks.length ∧ g = asks.length - k ∧ i = .int .i64 k ∧ Below w.heap.size w wr)
  case atStart => exact ⟨0, Nat.zero_le _, rfl, rfl, Below.refl _ _⟩
  case round =>
    obtain ⟨k, hk, hgk, rfl, hb⟩ := hrel
    have HB := Lib.hid hb
    have HGK := Lib.hid hgk
    clear hgk
    by_cases hlt : k < asks.length ∧ k < 12
    · obtain ⟨hlt, h12⟩ := hlt
      have q12 : decide ((k : Int) < 12) = true := by simp; omega
      have hki : (k : Int) < asks.length := by omega
      have hki0 : (0 : Int) ≤ (k : Int) := by omega
      obtain ⟨b, off, rfl, hbl, hc⟩ := askd_cells HA.out hb hlt
      have hqo := HQ.out asks[k] (List.getElem_mem hlt)
      have HC12 := Lib.hid (show w.cell? ⟨b, off + k * 13 + 12, none⟩ = some (.int .u64 asks[k].x) from by
        have := hc 12 _ rfl
        rwa [hb.cell (p := ⟨b, off + k * 13 + 12, none⟩) hbl] at this)
      have hbr : b < wr.heap.size := by have := hb.size; omega
      have hsw := hb.size
      clear hb
      generalize asks[k] = q at *
      have c3 := hc 3 _ rfl
      have c4 := hc 4 _ rfl
      have c5 := hc 5 _ rfl
      have c6 := hc 6 _ rfl
      have c7 := hc 7 _ rfl
      have c8 := hc 8 _ rfl
      have c9 := hc 9 _ rfl
      have c10 := hc 10 _ rfl
      have c11 := hc 11 _ rfl
      obtain ⟨qs, qe, qp, d, qx⟩ := q
      obtain ⟨kind, frame, r, dw, dx, af, ng, soft, note⟩ := d
      have hqx := hqo.2.2.2.2.2.2.2
      clear hc hqo
      dsimp only at c3 c4 c5 c6 c7 c8 c9 c10 c11 HC12 hqx
      obtain ⟨wo, rfl⟩ : ∃ wo : World, wo = wr := ⟨_, rfl⟩
      go_upto_region 5 with fail
      clear c3 c4 c5 c6 c7 c8 c9 c10 c11
      refine name_world ?_
      intro wa hwa
      have HBA := Lib.hid (show Below w.heap.size w wa by rw [hwa]; repeat' (first | (with_reducible exact Below.refl _ _) | (with_reducible (refine Below.setCell ?_ ?_ _)) | (with_reducible (refine Below.alloc ?_ ?_ _)) | (with_reducible (refine Below.drew ?_)) | (with_reducible (refine below_via ?_ HB.out ?_)) | omega | (simp; done) | (simp; omega)))
      have HXA := Lib.hid (show wa.heap[wo.heap.size]? = some (.cells #[.int .i64 kind, .int .i64 frame, .bool r, .bool dw, .bool dx, .bool af, .bool ng, .int .i64 soft, .int .i64 note] descT (0, 0)) by rw [hwa]; exact heap_new _ _)
      have hsa : wo.heap.size < wa.heap.size := heap_lt HXA.out
      clear hwa
      have ca := fun j => cell_of_row _ _ j _ _ _ HXA.out
      have fa := fun j => frozen_of_row _ _ j _ _ HXA.out
      obtain ⟨g, hg⟩ : ∃ g : Bool, g = (kind == 2 && (decide (0 < lv) && numOk frame 4095)) := ⟨_, rfl⟩
      have HG := Lib.hid hg
      clear hg
      go_cut [45] from 19 to 144 (fun v w' => v = .bool g ∧ w' = wa)
      case first =>
        have HP1 := Lib.hid (fun W => HPG.out frame W)
        cases h1 : (kind == 2)
        · go_wp2_with fail
          go_meet
          case rel => exact ⟨by rw [HG.out, h1]; rfl, rfl⟩
        · cases h2 : decide (0 < lv)
          · go_wp2_with fail
            go_meet
            case rel => exact ⟨by rw [HG.out, h1, h2]; rfl, rfl⟩
          · go_wp2_with fail
            refine Calls.mono (HP1.out _) ?_
            rintro e w1 ⟨rfl, rfl⟩
            go_wp2_with fail
            go_meet
            case rel => exact ⟨by rw [HG.out, h1, h2]; simp, rfl⟩
      case rest =>
        obtain ⟨rfl, rfl⟩ := hcut
        obtain ⟨wa, rfl⟩ : ∃ wa : World, wa = wc := ⟨_, rfl⟩
        go_upto_if 45 with fail
        go_cut [] from 19 to 144 (fun w' => ∃ d : De, Below w.heap.size w w' ∧ wo.heap.size < w'.heap.size ∧ w'.heap[wo.heap.size]? = some (.cells d.cells.toArray descT (0, 0)))
        case first =>
          cases g
          · go_wp2_with fail
            go_meet
            case rel => exact ⟨⟨kind, frame, r, dw, dx, af, ng, soft, note⟩, HBA.out, hsa, HXA.out⟩
          · have hg := HG.out
            simp only [Bool.true_eq, Bool.and_eq_true, beq_iff_eq, decide_eq_true_eq, numOk] at hg
            obtain ⟨_, _, hf0, hf1⟩ := hg
            have hmod0 := Int.emod_nonneg frame hcv2
            have hmod1 := Int.emod_lt_of_pos frame hcv0
            have hmod2 : frame % cv ≤ frame := by
              have := Int.mul_ediv_add_emod frame cv
              have h2 : 0 ≤ cv * (frame / cv) := Int.mul_nonneg (by omega) (Int.ediv_nonneg hf0 (by omega))
              omega
            have htm : frame.tmod cv = frame % cv := Int.tmod_eq_emod_of_nonneg hf0
            have hwr : IntKind.i64.wrap (frame - frame % cv) = frame - frame % cv := IntWalk.i64_in _ (by omega)
            go_wp2_with fail
            refine wp_region_class_tail 8 (fun w' => Below (wa.heap.size) (wa) w') (by kernel_rfl) (by kernel_rfl) (by kernel_rfl) (Below.refl _ _).drew ?_
            repeat (first
              | (refine wpLex_pass (by rfl) passes_plain ?_; (conv => arg 9; simp only [put_lit, put_lit_none, List.set]))
              | (refine wpLex_plain (by rfl) ?_
                 apply Exists.intro
                 refine ⟨?_, ?_⟩
                 · intro w' hb
                   have hsz := hb.size
                   try simp at hsz
                   have hcw := fun b o (h : b < wa.heap.size) => hb.cell (p := ⟨b, o, none⟩) h
                   have hfw := fun b o (h : b < wa.heap.size) => hb.frozen (p := ⟨b, o, none⟩) h
                   go_simp
                   first
                     | exact ⟨rfl, hb⟩
                     | exact rfl
                     | ((with_reducible refine Calls.mono (HCV.out _) ?_); rintro e w2 ⟨rfl, hb2⟩; exact ⟨_, rfl, rfl, hb.trans (hb2.mono hsz)⟩)
                 conv => arg 9; simp only [put_lit, put_lit_none, List.set]))
            refine wpLex_nil ?_
            intro wp hbp
            have hsp := hbp.size
            try simp at hsp
            have hcp := fun b o (h : b < wa.heap.size) => hbp.cell (p := ⟨b, o, none⟩) h
            have hfp := fun b o (h : b < wa.heap.size) => hbp.frozen (p := ⟨b, o, none⟩) h
            have HBp := Lib.hid hbp
            clear hbp
            simp only [List.drop]
            have HXp := Lib.hid ((HBp.out.block wo.heap.size hsa).trans HXA.out)
            have cxp := fun j => cell_of_row _ _ j _ _ _ HXp.out
            have fxp := fun j => frozen_of_row _ _ j _ _ HXp.out
            have hsq : wo.heap.size < wp.heap.size := by omega
            go_wp2_with fail
            go_meet
            case rel => exact ⟨⟨kind, frame - frame % cv, r, dw, dx, af, ng, soft, note⟩, (by repeat' (first | (with_reducible exact Below.refl _ _) | (with_reducible (refine Below.setCell ?_ ?_ _)) | (with_reducible (refine Below.alloc ?_ ?_ _)) | (with_reducible (refine Below.drew ?_)) | (with_reducible (refine below_via ?_ HBp.out ?_)) | (with_reducible (refine below_via ?_ HBA.out ?_)) | omega | (simp; done) | (simp; omega))), by simp only [size_set]; omega, heap_set_same HXp.out 1 _⟩
        case rest =>
          obtain ⟨dd, hbc, hsc, hxc⟩ := hcut
          have HBC := Lib.hid hbc
          have HXC := Lib.hid hxc
          clear hbc hxc ca fa
          go_wp2_with fail
          go_loopw [9] (fun i wr => ∃ (kk : Int) (d : De), 0 ≤ kk ∧ kk ≤ 2 ∧ i = .int .i64 kk ∧ Below w.heap.size w wr ∧ wo.heap.size < wr.heap.size ∧ wr.heap[wo.heap.size]? = some (.cells d.cells.toArray descT (0, 0))) (fun i _ => (2 - intOf i).toNat)
          case atStart => exact ⟨0, _, by omega, by omega, rfl, HBC.out, hsc, HXC.out⟩
          case round =>
            obtain ⟨kk, d, hk0, hk1, rfl, hb2, hs2, hx2⟩ := hrel
            have HB2 := Lib.hid hb2
            have hsw2 := hb2.size
            by_cases hlk : kk < 2
            · have HR := Lib.hid (fun W => rul_any 2 lv d hl0 hl1 (by omega) W)
              obtain ⟨kind, frame, r, dw, dx, af, ng, soft, note⟩ := d
              have HX2 := Lib.hid (show wr.heap[wo.heap.size]? = some (.cells #[.int .i64 kind, .int .i64 frame, .bool r, .bool dw, .bool dx, .bool af, .bool ng, .int .i64 soft, .int .i64 note] descT (0, 0)) from hx2)
              have cq := fun j => cell_of_row _ _ j _ _ _ HX2.out
              have fq := fun j => frozen_of_row _ _ j _ _ HX2.out
              clear hb2 hx2
              cases hm : mayDe 2 lv ⟨kind, frame, r, dw, dx, af, ng, soft, note⟩
              · have HW := Lib.hid (fun W => word_no (d := ⟨kind, frame, r, dw, dx, af, ng, soft, note⟩) (show checkDe 2 lv _ = false by unfold checkDe; rw [hm]; simp) W)
                rw [hm] at HR
                dsimp only [De.cells] at HW HR
                clear hm
                go_wp2_with fail
                refine Calls.mono (HW.out _) ?_
                rintro e w3 ⟨rfl, hb3⟩
                have hs3 := hb3.size
                try simp at hs3
                have hc3_0 := fun o => (bcell hb3).1 (wo.heap.size) o (by first | omega | (simp; done) | (simp; omega))
                have hf3_0 := fun o => (bcell hb3).2.1 (wo.heap.size) o (by first | omega | (simp; done) | (simp; omega))
                have hz3_0 := (bcell hb3).2.2 (wo.heap.size) (by first | omega | (simp; done) | (simp; omega))
                have HB3 := Lib.hid hb3
                clear hb3
                go_wp2_with fail
                refine Calls.mono (HR.out _) ?_
                rintro e w4 ⟨rfl, hb4⟩
                have hs4 := hb4.size
                try simp at hs4
                have hc4_0 := fun o => (bcell hb4).1 (wo.heap.size) o (by first | omega | (simp; done) | (simp; omega))
                have hf4_0 := fun o => (bcell hb4).2.1 (wo.heap.size) o (by first | omega | (simp; done) | (simp; omega))
                have hz4_0 := (bcell hb4).2.2 (wo.heap.size) (by first | omega | (simp; done) | (simp; omega))
                have HB4 := Lib.hid hb4
                clear hb4
                go_wp2_with fail
                refine Calls.mono (HNU.out _ _) ?_
                rintro e w4 ⟨rfl, rfl⟩
                go_wp2_with fail
                go_roundw
                case rel =>
                  refine ⟨kk + 1, ⟨kind, frame, r, dw, dx, af, false, soft, note⟩, ?_, ?_, rfl, ?_, ?_, ?_⟩
                  · omega
                  · omega
                  · repeat' (first | (with_reducible exact Below.refl _ _) | (with_reducible (refine Below.setCell ?_ ?_ _)) | (with_reducible (refine Below.alloc ?_ ?_ _)) | (with_reducible (refine Below.drew ?_)) | (with_reducible (refine below_via ?_ HB4.out ?_)) | (with_reducible (refine below_via ?_ HB3.out ?_)) | (with_reducible (refine below_via ?_ HB2.out ?_)) | omega | (simp; done) | (simp; omega))
                  · simp only [size_set]; omega
                  · exact heap_set_same ((show w4.heap[wo.heap.size]? = some (.cells #[.int .i64 kind, .int .i64 frame, .bool r, .bool dw, .bool dx, .bool af, .bool ng, .int .i64 soft, .int .i64 note] descT (0, 0)) from (by repeat (first | (with_reducible assumption) | (with_reducible exact HX2.out) | (with_reducible refine heap_below_is HB4.out (by (first | omega | (simp; done) | (simp; omega))) ?_) | (with_reducible refine heap_below_is HB3.out (by (first | omega | (simp; done) | (simp; omega))) ?_) | (exact heap_at _ _ (by simp; done)) | (with_reducible refine heap_old_is _ _ (by (first | omega | (simp; done) | (simp; omega))) ?_) | (with_reducible refine heap_far_is (by (first | omega | (simp; done) | (simp; omega))) ?_))))) 6 _
                case measure => simp [intOf]; omega
              · have HW := Lib.hid (fun W => word_yes (d := ⟨kind, frame, r, dw, dx, af, ng, soft, note⟩) (show checkDe 2 lv _ = true by unfold checkDe; rw [HPL.out, hm]; rfl) W)
                have HRW := Lib.hid (fun W => rword_any 2 lv ⟨kind, frame, r, dw, dx, af, ng, soft, note⟩ hm W)
                have HO := Lib.hid (fun W => of_yes 2 lv (wordDe 2 lv ⟨kind, frame, r, dw, dx, af, ng, soft, note⟩) (word_range hm) HPL.out W)
                rw [of_word hm hl0 hl1] at HO
                unfold OfPost deV at HO
                rw [hm] at HR
                dsimp only [De.cells] at HW HR HRW HO
                generalize wordDe 2 lv _ = y at *
                clear hm
                go_wp2_with fail
                refine Calls.mono (HW.out _) ?_
                rintro e w3 ⟨rfl, hb3⟩
                have hs3 := hb3.size
                try simp at hs3
                have hc3_0 := fun o => (bcell hb3).1 (wo.heap.size) o (by first | omega | (simp; done) | (simp; omega))
                have hf3_0 := fun o => (bcell hb3).2.1 (wo.heap.size) o (by first | omega | (simp; done) | (simp; omega))
                have hz3_0 := (bcell hb3).2.2 (wo.heap.size) (by first | omega | (simp; done) | (simp; omega))
                have HB3 := Lib.hid hb3
                clear hb3
                go_wp2_with fail
                refine Calls.mono (HR.out _) ?_
                rintro e w4 ⟨rfl, hb4⟩
                have hs4 := hb4.size
                try simp at hs4
                have hc4_0 := fun o => (bcell hb4).1 (wo.heap.size) o (by first | omega | (simp; done) | (simp; omega))
                have hf4_0 := fun o => (bcell hb4).2.1 (wo.heap.size) o (by first | omega | (simp; done) | (simp; omega))
                have hz4_0 := (bcell hb4).2.2 (wo.heap.size) (by first | omega | (simp; done) | (simp; omega))
                have HB4 := Lib.hid hb4
                clear hb4
                go_wp2_with fail
                refine Calls.mono (HRW.out _) ?_
                rintro e w5 ⟨rfl, hb5⟩
                have hs5 := hb5.size
                try simp at hs5
                have hc5_0 := fun o => (bcell hb5).1 (wo.heap.size) o (by first | omega | (simp; done) | (simp; omega))
                have hf5_0 := fun o => (bcell hb5).2.1 (wo.heap.size) o (by first | omega | (simp; done) | (simp; omega))
                have hz5_0 := (bcell hb5).2.2 (wo.heap.size) (by first | omega | (simp; done) | (simp; omega))
                have HB5 := Lib.hid hb5
                clear hb5
                go_wp2_with fail
                refine Calls.mono (HNU.out _ _) ?_
                rintro e w5 ⟨rfl, rfl⟩
                go_wp2_with fail
                refine Calls.mono (HO.out _) ?_
                rintro e w6 ⟨rfl, hb6⟩
                have hs6 := hb6.size
                try simp at hs6
                have hc6_0 := fun o => (bcell hb6).1 (wo.heap.size) o (by first | omega | (simp; done) | (simp; omega))
                have hf6_0 := fun o => (bcell hb6).2.1 (wo.heap.size) o (by first | omega | (simp; done) | (simp; omega))
                have hz6_0 := (bcell hb6).2.2 (wo.heap.size) (by first | omega | (simp; done) | (simp; omega))
                have HB6 := Lib.hid hb6
                clear hb6
                go_wp2_with fail
                refine Calls.mono (HNU.out _ _) ?_
                rintro e w6 ⟨rfl, rfl⟩
                go_wp2_with fail
                go_roundw
                case rel =>
                  refine ⟨kk + 1, ⟨kind, frame, r, dw, dx, af, false, soft, note⟩, ?_, ?_, rfl, ?_, ?_, ?_⟩
                  · omega
                  · omega
                  · repeat' (first | (with_reducible exact Below.refl _ _) | (with_reducible (refine Below.setCell ?_ ?_ _)) | (with_reducible (refine Below.alloc ?_ ?_ _)) | (with_reducible (refine Below.drew ?_)) | (with_reducible (refine below_via ?_ HB6.out ?_)) | (with_reducible (refine below_via ?_ HB5.out ?_)) | (with_reducible (refine below_via ?_ HB4.out ?_)) | (with_reducible (refine below_via ?_ HB3.out ?_)) | (with_reducible (refine below_via ?_ HB2.out ?_)) | omega | (simp; done) | (simp; omega))
                  · simp only [size_new, size_set]; omega
                  · exact (heap_old _ _ (by simp only [size_set]; omega)).trans (heap_set_same ((show w6.heap[wo.heap.size]? = some (.cells #[.int .i64 kind, .int .i64 frame, .bool r, .bool dw, .bool dx, .bool af, .bool ng, .int .i64 soft, .int .i64 note] descT (0, 0)) from (by repeat (first | (with_reducible assumption) | (with_reducible exact HX2.out) | (with_reducible refine heap_below_is HB6.out (by (first | omega | (simp; done) | (simp; omega))) ?_) | (with_reducible refine heap_below_is HB5.out (by (first | omega | (simp; done) | (simp; omega))) ?_) | (with_reducible refine heap_below_is HB4.out (by (first | omega | (simp; done) | (simp; omega))) ?_) | (with_reducible refine heap_below_is HB3.out (by (first | omega | (simp; done) | (simp; omega))) ?_) | (exact heap_at _ _ (by simp; done)) | (with_reducible refine heap_old_is _ _ (by (first | omega | (simp; done) | (simp; omega))) ?_) | (with_reducible refine heap_far_is (by (first | omega | (simp; done) | (simp; omega))) ?_))))) 6 _)
                case measure => simp [intOf]; omega
            · clear hx2
              go_wp2_with fail
              go_loopw [16] (fun i wr => ∃ kb : Int, 0 ≤ kb ∧ kb ≤ 66 ∧ i = .int .i64 kb ∧ Below w.heap.size w wr) (fun i _ => (66 - intOf i).toNat)
              case atStart => exact ⟨0, by omega, by omega, rfl, HB2.out⟩
              case round =>
                obtain ⟨kb, hkb0, hkb1, rfl, hb5⟩ := hrel
                have HB5 := Lib.hid hb5
                have hsw5 := hb5.size
                by_cases hlb : kb < 64
                · have hbr : b < wr.heap.size := by omega
                  have c12 := (hb5.cell (p := ⟨b, off + k * 13 + 12, none⟩) hbl).trans HC12.out
                  obtain ⟨z, hz⟩ : ∃ z, bits .xor .u64 qx (IntKind.u64.wrap (2 ^ kb.toNat)) = z := ⟨_, rfl⟩
                  have HO := Lib.hid (fun W => of_yes 2 lv z (by rw [← hz]; exact ⟨bits_lo_u64 _ _ _, bits_hi_u64 _ _ _⟩) HPL.out W)
                  have HR := Lib.hid (fun W => rof_any 2 lv z (by rw [← hz]; exact ⟨bits_lo_u64 _ _ _, bits_hi_u64 _ _ _⟩) HPL.out W)
                  generalize ofDe 2 lv z = x at *
                  obtain ⟨x0, x1, x2, x3, x4, x5, x6, x7, x8⟩ := x
                  unfold OfPost deV at HO
                  unfold RofPost deV at HR
                  dsimp only [De.cells] at HO HR
                  clear hb5 hb2
                  go_wp2_with fail
                  refine wp_region_lex [17] (BoxC (wr) 17 14 15 (descT) (#[.int .i64 0, .int .i64 0, .bool false, .bool false, .bool false, .bool false, .bool false, .int .i64 0, .int .i64 0]) (#[.int .i64 x0, .int .i64 x1, .bool x2, .bool x3, .bool x4, .bool x5, .bool x6, .int .i64 x7, .int .i64 x8])) boxC_looks (by kernel_rfl) (by kernel_rfl) (by kernel_rfl) (boxC_start _) ?_
                  repeat (first
                    | (refine wpLex_pass (by rfl) (passes_box (by decide) (by rfl) (by rfl)) ?_; (conv => arg 9; simp only [put_lit, put_lit_none, List.set]))
                    | (refine wpLex_box (by rfl) (by rfl) (by decide) (by rfl) (by rfl) ?_
                       apply Exists.intro
                       refine ⟨?_, ?_⟩
                       · intro w' hb
                         have hsz := hb.size
                         try simp at hsz
                         have hcw := fun b o (h : b < (wr).heap.size) => hb.cell (p := ⟨b, o, none⟩) h
                         have hfw := fun b o (h : b < (wr).heap.size) => hb.frozen (p := ⟨b, o, none⟩) h
                         go_simp
                         first
                           | exact ⟨rfl, Below.refl _ _⟩
                           | exact Below.refl _ _
                           | ((with_reducible refine Calls.mono (HO.out _) ?_); rintro e w2 ⟨rfl, hb2⟩; first | exact ⟨_, rfl, rfl, hb2⟩ | exact ⟨rfl, hb2⟩)
                       conv => arg 9; simp only [put_lit, put_lit_none, List.set])
                    | (refine wpLex_want undef (by rfl) (comes_alloc rfl rfl (by simp) (by kernel_rfl) rfl (fun w => by go_simp; rfl)) ?_; (conv => arg 9; simp only [put_lit, put_lit_none, List.set]))
                    | (refine wpLex_want undef (by rfl) (comes_store rfl (by kernel_rfl) ?_) ?_
                       · intro g w' hg hz
                         have hzc := fun j => cell_of_row _ _ j _ _ _ hz
                         have hzf := fun j => frozen_of_row _ _ j _ _ hz
                         simp only [put_lit, List.set]
                         go_simp
                         exact ⟨(by repeat' (first | (with_reducible exact Below.refl _ _) | (with_reducible (refine Below.setCell ?_ ?_ _)) | omega | (simp; done))), (by simp [World.setCell, Array.getElem?_modify, hz])⟩
                       conv => arg 9; simp only [put_lit, put_lit_none, List.set]))
                  refine wpLex_nil ?_
                  intro wq bq dq hdq hCq hoq
                  obtain ⟨gq, rfl, hgq, hxq, hbq⟩ := boxC_end hCq (hdq 14 (by decide)) (hdq 15 (by decide)) hoq
                  clear hCq hdq hoq
                  simp only [put_lit, List.set]
                  have hsq := hbq.size
                  try simp at hsq hgq
                  have hlq := heap_lt hxq
                  have hcq := fun b o (h : b < (wr).heap.size) => hbq.cell (p := ⟨b, o, none⟩) h
                  have hfq := fun b o (h : b < (wr).heap.size) => hbq.frozen (p := ⟨b, o, none⟩) h
                  have HBq := Lib.hid hbq
                  have HXq := Lib.hid hxq
                  clear hbq hxq
                  have hbq : b < wq.heap.size := by omega
                  have c12q := (hcq b (off + k * 13 + 12) hbr).trans c12
                  have cg := fun j => cell_of_row _ _ j _ _ _ HXq.out
                  clear hcq hfq c12
                  go_wp2_with fail
                  refine wp_region_class (fun w' => Below (wq.heap.size) (wq) w') (by kernel_rfl) (by kernel_rfl) (Below.refl _ _).drew ?_
                  repeat (first
                    | (refine wpLex_pass (by rfl) passes_plain ?_; (conv => arg 9; simp only [put_lit, put_lit_none, List.set]))
                    | (refine wpLex_plain (by rfl) ?_
                       apply Exists.intro
                       refine ⟨?_, ?_⟩
                       · intro w' hb
                         have hsz := hb.size
                         try simp at hsz
                         have hcw := fun b o (h : b < wq.heap.size) => hb.cell (p := ⟨b, o, none⟩) h
                         have hfw := fun b o (h : b < wq.heap.size) => hb.frozen (p := ⟨b, o, none⟩) h
                         go_simp
                         first
                           | exact ⟨rfl, hb⟩
                           | exact rfl
                           | ((with_reducible refine Calls.mono (HNU.out _ _) ?_); rintro e w2 ⟨rfl, rfl⟩; exact ⟨_, rfl, rfl, hb⟩)
                           | ((with_reducible refine Calls.mono (HR.out _) ?_); rintro e w2 ⟨rfl, hb2⟩; exact ⟨_, rfl, rfl, hb.trans (hb2.mono hsz)⟩)
                       conv => arg 9; simp only [put_lit, put_lit_none, List.set]))
                  refine wpLex_nil ?_
                  intro wt hbt
                  have hst := hbt.size
                  try simp at hst
                  have hct := fun b o (h : b < wq.heap.size) => hbt.cell (p := ⟨b, o, none⟩) h
                  have hft := fun b o (h : b < wq.heap.size) => hbt.frozen (p := ⟨b, o, none⟩) h
                  have HBt := Lib.hid hbt
                  clear hbt
                  go_wp2_with fail
                  go_roundw
                  case rel => exact ⟨kb + 3, by omega, by omega, rfl, (by repeat' (first | (with_reducible exact Below.refl _ _) | (with_reducible (refine Below.setCell ?_ ?_ _)) | (with_reducible (refine Below.alloc ?_ ?_ _)) | (with_reducible (refine Below.drew ?_)) | (with_reducible (refine below_via ?_ HBt.out ?_)) | (with_reducible (refine below_via ?_ HBq.out ?_)) | (with_reducible (refine below_via ?_ HB5.out ?_)) | omega | (simp; done) | (simp; omega)))⟩
                  case measure => simp [intOf]; omega
                · clear hb5
                  go_wp2_with fail
                  go_roundg (asks.length - (k + 1))
                  case rel => exact ⟨k + 1, by omega, rfl, by go_num, HB5.out⟩
                  case measure => have := HGK.out; omega
    · have hno : ¬ (k < asks.length ∧ k < 12) := hlt
      by_cases h1 : k < asks.length
      · have h2 : ¬ k < 12 := fun h => hno ⟨h1, h⟩
        clear hno hlt
        go_wp2_with fail
        refine Calls.mono (HWK.out _) ?_
        rintro e w1 ⟨rfl, hb1⟩
        have hs1 := hb1.size
        try simp at hs1
        have HB1 := Lib.hid hb1
        clear hb1
        go_wp2
        go_ret
        exact ⟨rfl, below_call HB.out HB1.out HB.out.size⟩
      · clear hno hlt
        go_wp2_with fail
        refine Calls.mono (HWK.out _) ?_
        rintro e w1 ⟨rfl, hb1⟩
        have hs1 := hb1.size
        try simp at hs1
        have HB1 := Lib.hid hb1
        clear hb1
        go_wp2
        go_ret
        exact ⟨rfl, below_call HB.out HB1.out HB.out.size⟩

theorem twoZero_walk (s : Sl AskD) (w : World) (hs : AsksAt w s) :
    Calls Try.prog 10 #[.slice s.addr s.list.length s.cap] w fun e w' => e = .returned (.bool true) ∧ Below w.heap.size w w' := by
  have HA := Lib.hid (at2_any s 0 (by omega) (by omega) w hs)
  go_enter Try.func10, Try.ntmps10
  go_wp2_with fail
  refine Calls.mono (HA.out) ?_
  rintro e w1 ⟨rfl, hb1⟩
  have hs1 := hb1.size
  try simp at hs1
  have HB1 := Lib.hid hb1
  clear hb1
  go_wp2
  go_ret
  exact ⟨rfl, HB1.out⟩

theorem twoFirst_walk (s : Sl AskD) (w : World) (hs : AsksAt w s) :
    Calls Try.prog 11 #[.slice s.addr s.list.length s.cap] w fun e w' => e = .returned (.bool true) ∧ Below w.heap.size w w' := by
  have HA := Lib.hid (at2_any s 1 (by omega) (by omega) w hs)
  go_enter Try.func11, Try.ntmps11
  go_wp2_with fail
  refine Calls.mono (HA.out) ?_
  rintro e w1 ⟨rfl, hb1⟩
  have hs1 := hb1.size
  try simp at hs1
  have HB1 := Lib.hid hb1
  clear hb1
  go_wp2
  go_ret
  exact ⟨rfl, HB1.out⟩

theorem twoSecond_walk (s : Sl AskD) (w : World) (hs : AsksAt w s) :
    Calls Try.prog 12 #[.slice s.addr s.list.length s.cap] w fun e w' => e = .returned (.bool true) ∧ Below w.heap.size w w' := by
  have HA := Lib.hid (at2_any s 2 (by omega) (by omega) w hs)
  go_enter Try.func12, Try.ntmps12
  go_wp2_with fail
  refine Calls.mono (HA.out) ?_
  rintro e w1 ⟨rfl, hb1⟩
  have hs1 := hb1.size
  try simp at hs1
  have HB1 := Lib.hid hb1
  clear hb1
  go_wp2
  go_ret
  exact ⟨rfl, HB1.out⟩

theorem twoThird_walk (s : Sl AskD) (w : World) (hs : AsksAt w s) :
    Calls Try.prog 13 #[.slice s.addr s.list.length s.cap] w fun e w' => e = .returned (.bool true) ∧ Below w.heap.size w w' := by
  have HA := Lib.hid (at2_any s 3 (by omega) (by omega) w hs)
  go_enter Try.func13, Try.ntmps13
  go_wp2_with fail
  refine Calls.mono (HA.out) ?_
  rintro e w1 ⟨rfl, hb1⟩
  have hs1 := hb1.size
  try simp at hs1
  have HB1 := Lib.hid hb1
  clear hb1
  go_wp2
  go_ret
  exact ⟨rfl, HB1.out⟩

end Go.Proofs.Ytiapjaaaoeoaeaa
