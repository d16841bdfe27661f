/-
  'WalkTables' returns true, and of what was there nothing has turned. Conditions: the argument reads as such.
-/
import Derived.Test.YtddbndmbcdeggaaWkL
import Derived.Test.YtddbndmbcdeggaaWin
namespace Go.Proofs.Ytddbndmbcdeggaa
open Go.RowKit

/-- Which descriptor, which error, whatever is asked. -/
def tabEr (n : Nat) (stage level frame page : Int) : Int := if tabOk n stage level page then (if numOk frame ((n : Int) / 8 - 1) then 0 else 2) else 1
def tabRes (ws : List Int) (stage level frame page : Int) : De := if tabOk ws.length stage level page then (if numOk frame ((ws.length : Int) / 8 - 1) then tabDe ws stage level frame page else noDe) else noDe
theorem Table_any (A : Option Addr) (c : Nat) (ws : List Int) (stage level frame page : Int) (w : World) (hA : MeAt w A c ws) :
    Calls Try.prog 14 #[.agg #[.slice A ws.length c], .int .i64 stage, .int .i64 level, .int .i64 frame, .int .i64 page] w (OfPost w (tabRes ws stage level frame page) (tabEr ws.length stage level frame page)) := by
  unfold tabRes tabEr
  cases h : tabOk ws.length stage level page
  · exact Table_no A c ws.length stage level frame page w hA.len h
  · rw [if_pos rfl, if_pos rfl]
    cases hf : numOk frame ((ws.length : Int) / 8 - 1)
    · exact Table_far A c ws.length stage level frame page w hA.len h (by unfold numOk at hf; simp at hf; omega)
    · rw [if_pos rfl, if_pos rfl]
      unfold numOk at hf
      simp at hf
      obtain ⟨f, rfl⟩ : ∃ f : Nat, frame = f := ⟨frame.toNat, by omega⟩
      exact Table_yes A c ws stage level f page w hA h (by omega)
theorem rTable_w (A : Option Addr) (c : Nat) (ws : List Int) (stage level frame page : Int) (w : World) (hA : MeAt w A c ws) (h : tabOk ws.length stage level page = true) (hf : numOk frame ((ws.length : Int) / 8 - 1) = true) :
    Calls Try.prog 20 #[.agg #[.slice A ws.length c], .int .i64 stage, .int .i64 level, .int .i64 frame, .int .i64 page] w (RofPost w (tabRes ws stage level frame page)) := by
  unfold tabRes
  rw [h, if_pos rfl, hf, if_pos rfl]
  unfold numOk at hf
  simp at hf
  obtain ⟨f, rfl⟩ : ∃ f : Nat, frame = f := ⟨frame.toNat, by omega⟩
  exact rTable_any A c ws stage level f page w hA h (by omega)

set_option maxRecDepth 100000 in
set_option maxHeartbeats 16000000 in
theorem walkTables_walk (q : AskW) (w : World) (hq : AskWAt w q) :
    Calls Try.prog 3 #[.agg q.cells.toArray] w fun e w' => e = .returned (.bool true) ∧ Below w.heap.size w w' := by
  have HHV := Lib.hid (fun W => heavy5_any q W)
  obtain ⟨b, hb⟩ : ∃ b, heavyW q = b := ⟨_, rfl⟩
  rw [hb] at HHV
  have HLI := Lib.hid (fun (h : b = false) => heavyW_no (hb.trans h))
  have HME := Lib.hid (fun h => hq.me h)
  have HPA := Lib.hid hq.pat
  clear hb hq
  obtain ⟨ma, mc, ws, frame, pa, pc, pages⟩ := q
  dsimp only [AskW.cells] at *
  have HWA := Lib.hid (fun W => wakes5_any W)
  have HNU := Lib.hid (fun (n : Int) W => num5_any n W)
  go_enter Try.func3, Try.ntmps3
  go_wp2_with fail
  refine Calls.mono (HHV.out _) ?_
  rintro e w1 ⟨rfl, hb1⟩
  have hs1 := hb1.size
  try simp at hs1
  have hc1_0 := fun o => (bcell hb1).1 (w.heap.size) o (by first | omega | (simp; done) | (simp; omega))
  have hf1_0 := fun o => (bcell hb1).2.1 (w.heap.size) o (by first | omega | (simp; done) | (simp; omega))
  have hz1_0 := (bcell hb1).2.2 (w.heap.size) (by first | omega | (simp; done) | (simp; omega))
  have HB1 := Lib.hid hb1
  clear hb1
  cases b
  case true =>
    go_wp2
    go_ret
    exact ⟨rfl, (by repeat' (first | (with_reducible exact Below.refl _ _) | (with_reducible (refine Below.setCell ?_ ?_ _)) | (with_reducible (refine Below.alloc ?_ ?_ _)) | (with_reducible (refine Below.drew ?_)) | (with_reducible (refine below_via ?_ HB1.out ?_)) | omega | (simp; done) | (simp; omega)))⟩
  case false =>
    obtain ⟨hw2, hp5⟩ := HLI.out rfl
    have HM := Lib.hid (HME.out hw2)
    clear HLI HME
    go_wp2_with fail
    have HX := Lib.hid (show w1.heap[w.heap.size]? = some (.cells #[.slice ma ws.length mc, .int .i64 frame, .slice pa pages.length pc] ask5T (0, 0)) from (by repeat (first | (with_reducible assumption) | (with_reducible refine heap_below_is HB1.out (by (first | omega | (simp; done) | (simp; omega))) ?_) | (exact heap_at _ _ (by simp; done)) | (with_reducible refine heap_old_is _ _ (by (first | omega | (simp; done) | (simp; omega))) ?_) | (with_reducible refine heap_far_is (by (first | omega | (simp; done) | (simp; omega))) ?_))))
    have HB := Lib.hid ((by repeat' (first | (with_reducible exact Below.refl _ _) | (with_reducible (refine Below.setCell ?_ ?_ _)) | (with_reducible (refine Below.alloc ?_ ?_ _)) | (with_reducible (refine Below.drew ?_)) | (with_reducible (refine below_via ?_ HB1.out ?_)) | omega | (simp; done) | (simp; omega))) : Below w.heap.size w w1)
    clear hc1_0 hf1_0
    go_loopg [3] 12 (fun gg i wr => ∃ k : Nat, k ≤ pages.length ∧ k ≤ 12 ∧ gg = 12 - k ∧ i = .int .i64 k ∧ Below w1.heap.size w1 wr)
    case atStart => exact ⟨0, Nat.zero_le _, Nat.zero_le _, rfl, rfl, Below.refl _ _⟩
    case round =>
      obtain ⟨k, hk, hk12, hgk, rfl, hbw⟩ := hrel
      have HGK := Lib.hid hgk
      clear hgk
      have HXR := Lib.hid ((hbw.block _ hz1_0).trans HX.out)
      have HBW := Lib.hid hbw
      have hsw := hbw.size
      clear hbw
      have ef := fun j => frozen_of_row _ _ j _ _ HXR.out
      have e2 := cell_of_row _ _ 2 _ _ _ HXR.out
      have hxl := heap_lt HXR.out
      by_cases hlt : k < pages.length ∧ k < 12
      · obtain ⟨hlt, hlt12⟩ := hlt
        have hki : (k : Int) < pages.length := by omega
        have q12 : decide ((k : Int) < 12) = true := by simp; omega
        go_wp2_with fail
        clear e2 ef
        obtain ⟨wo, rfl⟩ : ∃ wo : World, wo = wr := ⟨_, rfl⟩
        go_loopg [4] 3 (fun gg j wr => ∃ s : Nat, s ≤ 3 ∧ gg = 3 - s ∧ j = .int .i64 ((s : Int) + 1) ∧ Below wo.heap.size wo wr)
        case atStart => exact ⟨0, Nat.zero_le _, rfl, rfl, Below.refl _ _⟩
        case round =>
          obtain ⟨s, hs3, hgs, rfl, hbv⟩ := hrel
          have HGS := Lib.hid hgs
          have HBV := Lib.hid hbv
          have hsv := hbv.size
          clear hgs hbv
          by_cases hs : s ≤ 2
          · have hsi : (s : Int) + 1 ≤ 3 := by omega
            go_wp2_with fail
            obtain ⟨wp, rfl⟩ : ∃ wp : World, wp = wr := ⟨_, rfl⟩
            go_loopg [5] 5 (fun gg j wr => ∃ l : Nat, l ≤ 5 ∧ gg = 5 - l ∧ j = .int .i64 l ∧ Below wp.heap.size wp wr)
            case atStart => exact ⟨0, Nat.zero_le _, rfl, rfl, Below.refl _ _⟩
            case round =>
              obtain ⟨l, hl5, hgl, rfl, hbl⟩ := hrel
              have HGL := Lib.hid hgl
              have HBL := Lib.hid hbl
              have hsl := hbl.size
              clear hgl hbl
              by_cases hl : l ≤ 4
              · have hli : (l : Int) ≤ 4 := by omega
                go_wp2_with fail
                obtain ⟨wt, rfl⟩ : ∃ wt : World, wt = wr := ⟨_, rfl⟩
                go_loopg [6] 2 (fun gg j wr => ∃ t : Nat, t ≤ 2 ∧ gg = 2 - t ∧ j = .int .i64 t ∧ Below wt.heap.size wt wr)
                case atStart => exact ⟨0, Nat.zero_le _, rfl, rfl, Below.refl _ _⟩
                case round =>
                  obtain ⟨t, ht2, hgt, rfl, hbt⟩ := hrel
                  have HGT := Lib.hid hgt
                  have HBT := Lib.hid hbt
                  have hst := hbt.size
                  clear hgt hbt
                  by_cases ht : t < 2
                  · have hti : (t : Int) < 2 := by omega
                    have HXV := Lib.hid ((HBT.out.block _ (by omega)).trans ((HBL.out.block _ (by omega)).trans ((HBV.out.block _ hxl).trans HXR.out)))
                    have HBR := Lib.hid (show Below w.heap.size w wr from (by repeat' (first | (with_reducible exact Below.refl _ _) | (with_reducible (refine Below.setCell ?_ ?_ _)) | (with_reducible (refine Below.alloc ?_ ?_ _)) | (with_reducible (refine Below.drew ?_)) | (with_reducible (refine below_via ?_ HBT.out ?_)) | (with_reducible (refine below_via ?_ HBL.out ?_)) | (with_reducible (refine below_via ?_ HBV.out ?_)) | (with_reducible (refine below_via ?_ HBW.out ?_)) | (with_reducible (refine below_via ?_ HB.out ?_)) | omega | (simp; done) | (simp; omega))))
                    obtain ⟨bp, op, rfl, hbp, hcp⟩ := at_cell HPA.out HBR.out hlt rfl
                    obtain ⟨page, hpage⟩ : ∃ x, pages[k] = x := ⟨_, rfl⟩
                    rw [hpage] at hcp
                    clear hpage
                    have HCP := Lib.hid hcp
                    have hsr := HBR.out.size
                    have hbpr : bp < wr.heap.size := by omega
                    have x1 := cell_of_row _ _ 1 _ _ _ HXV.out
                    have xf := fun j => frozen_of_row _ _ j _ _ HXV.out
                    have hxv := heap_lt HXV.out
                    have hi1 : IntKind.i64.wrap ((k : Int) * 7) = (k : Int) * 7 := IntWalk.i64_in _ (by omega)
                    have hi2 : IntKind.i64.wrap ((k : Int) * 7 + l) = (k : Int) * 7 + l := IntWalk.i64_in _ (by omega)
                    have HWI := Lib.hid (fun W => within_any ((k : Int) * 7 + l) 70 W (by decide) (by decide) (by omega))
                    clear hcp
                    go_upto_if 40 with fail
                   
                    go_cut [7] from 41 to 41 (fun v W => ∃ fr : Int, v = .int .i64 fr ∧ W = wr)
                    case first =>
                      by_cases ht1 : t = 1
                      · subst ht1
                        go_wp2_with (go_at_call 13; refine (HWI.out _).mono ?_; rintro e w' ⟨rfl, rfl⟩)
                        go_meet
                        case rel => exact ⟨_, rfl, rfl⟩
                      · have qt : ((t : Int) == 1) = false := by simp; omega
                        go_wp2_with fail
                        go_meet
                        case rel => exact ⟨_, rfl, rfl⟩
                    case rest =>
                      obtain ⟨fr, rfl, hwc⟩ := hcut
                      have hwc2 := hwc.symm
                      subst hwc2
                      have HTB := Lib.hid (fun W (hb : Below wr.heap.size wr W) => Table_any ma mc ws ((s : Int) + 1) l fr page W ((HM.out.below HBR.out).below hb))
                      obtain ⟨tk, htk⟩ : ∃ b, tabOk ws.length ((s : Int) + 1) l page = b := ⟨_, rfl⟩
                      obtain ⟨fk, hfk⟩ : ∃ b, numOk fr ((ws.length : Int) / 8 - 1) = b := ⟨_, rfl⟩
                      have HRT := Lib.hid (fun (h1 : tk = true) (h2 : fk = true) W (hb : Below wr.heap.size wr W) => rTable_w ma mc ws ((s : Int) + 1) l fr page W ((HM.out.below HBR.out).below hb) (htk.trans h1) (hfk.trans h2))
                      have HNO := Lib.hid (show ¬ (tk = true ∧ fk = true) → tabRes ws ((s : Int) + 1) l fr page = noDe from fun h => by
                        unfold tabRes
                        rw [htk, hfk]
                        cases tk <;> cases fk <;> first | rfl | exact absurd ⟨rfl, rfl⟩ h)
                      have HER := Lib.hid (show tabEr ws.length ((s : Int) + 1) l fr page = if tk then (if fk then 0 else 2) else 1 by unfold tabEr; rw [htk, hfk])
                      rw [HER.out] at HTB
                      have htk2 := htk
                      unfold tabOk at htk2
                      obtain ⟨gm, hgm⟩ : ∃ b, memOk ws.length = b := ⟨_, rfl⟩
                      obtain ⟨gl, hgl⟩ : ∃ b, placeOk ((s : Int) + 1) l = b := ⟨_, rfl⟩
                      obtain ⟨gp, hgp⟩ : ∃ b, numOk page 4095 = b := ⟨_, rfl⟩
                      rw [hgm, hgl, hgp] at htk2
                      have HTK := Lib.hid htk2
                      have HRM := Lib.hid (fun W => refMem_any ma ws.length mc W (by omega))
                      have HPL := Lib.hid (fun W => place_any ((s : Int) + 1) l W)
                      have HPP := Lib.hid (fun W => page_any page W)
                      have HFR := Lib.hid (fun W => refFrames_any ma ws.length mc W (by omega))
                      have HNF := Lib.hid (fun W => num_any fr ((ws.length : Int) / 8 - 1) W)
                      rw [hgm] at HRM
                      rw [hgl] at HPL
                      rw [hgp] at HPP
                      rw [hfk] at HNF
                      have hw8 : IntKind.i64.wrap ((ws.length : Int) / 8 - 1) = (ws.length : Int) / 8 - 1 := IntWalk.i64_in _ (by omega)
                      clear htk htk2 hfk hgm hgl hgp HER
                      generalize tabRes ws ((s : Int) + 1) l fr page = d at *
                      obtain ⟨dk, df, dr, dw, dx, daf, dng, dso, dno⟩ := d
                      unfold OfPost deV at HTB
                      unfold RofPost deV at HRT
                      dsimp only [De.cells] at HTB HRT
                      obtain ⟨er, her⟩ : ∃ x : Int, (if tk = true then (if fk = true then 0 else 2) else 1) = x := ⟨_, rfl⟩
                      rw [her] at HTB
                      have HER2 := Lib.hid her
                      clear her
                      have x0 := cell_of_row _ _ 0 _ _ _ HXV.out
                      have x2 := cell_of_row _ _ 2 _ _ _ HXV.out
                      have cp := HCP.out
                      go_upto_region 18 with fail
                     
                      refine wp_region_lex [8] (BoxC (wr) 8 14 15 (descT) (#[.int .i64 0, .int .i64 0, .bool false, .bool false, .bool false, .bool false, .bool false, .int .i64 0, .int .i64 0]) (#[.int .i64 dk, .int .i64 df, .bool dr, .bool dw, .bool dx, .bool daf, .bool dng, .int .i64 dso, .int .i64 dno])) boxC_looks (by kernel_rfl) (by kernel_rfl) (by kernel_rfl) (boxC_start _) ?_
                      repeat (first
                        | (refine wpLex_pass (by rfl) (passes_box (by decide) (by rfl) (by rfl)) ?_; (conv => arg 9; simp only [put_lit, put_lit_none, List.set]))
                        | (refine wpLex_box (by rfl) (by rfl) (by decide) (by rfl) (by rfl) ?_
                           apply Exists.intro
                           refine ⟨?_, ?_⟩
                           · intro w' hb
                             have hsz := hb.size
                             try simp at hsz
                             have hcw := fun b o (h : b < (wr).heap.size) => hb.cell (p := ⟨b, o, none⟩) h
                             have hfw := fun b o (h : b < (wr).heap.size) => hb.frozen (p := ⟨b, o, none⟩) h
                             go_simp
                             first
                               | exact ⟨rfl, Below.refl _ _⟩
                               | exact Below.refl _ _
                               | ((with_reducible refine Calls.mono (HTB.out _ (by repeat' (first | (with_reducible exact Below.refl _ _) | (with_reducible (refine Below.setCell ?_ ?_ _)) | (with_reducible (refine Below.alloc ?_ ?_ _)) | (with_reducible (refine Below.drew ?_)) | (with_reducible (refine below_via ?_ hb ?_)) | omega | (simp; done) | (simp; omega)))) ?_); rintro e w2 ⟨rfl, hb2⟩; first | exact ⟨_, rfl, rfl, hb2⟩ | exact ⟨rfl, hb2⟩)
                           conv => arg 9; simp only [put_lit, put_lit_none, List.set])
                        | (refine wpLex_want undef (by rfl) (comes_alloc rfl rfl (by simp) (by kernel_rfl) rfl (fun w => by go_simp; rfl)) ?_; (conv => arg 9; simp only [put_lit, put_lit_none, List.set]))
                        | (refine wpLex_want undef (by rfl) (comes_store rfl (by kernel_rfl) ?_) ?_
                           · intro g w' hg hz
                             have hzc := fun j => cell_of_row _ _ j _ _ _ hz
                             have hzf := fun j => frozen_of_row _ _ j _ _ hz
                             simp only [put_lit, List.set]
                             go_simp
                             exact ⟨(by repeat' (first | (with_reducible exact Below.refl _ _) | (with_reducible (refine Below.setCell ?_ ?_ _)) | omega | (simp; done))), (by simp [World.setCell, Array.getElem?_modify, hz])⟩
                           conv => arg 9; simp only [put_lit, put_lit_none, List.set]))
                      refine wpLex_nil ?_
                      intro wq bq dq hdq hCq hoq
                      obtain ⟨gq, rfl, hgq, hxq, hbq⟩ := boxC_end hCq (hdq 14 (by decide)) (hdq 15 (by decide)) hoq
                      clear hCq hdq hoq
                      simp only [put_lit, List.set]
                      have hsq := hbq.size
                      try simp at hsq hgq
                      have hlq := heap_lt hxq
                      have hcq := fun b o (h : b < (wr).heap.size) => hbq.cell (p := ⟨b, o, none⟩) h
                      have hfq := fun b o (h : b < (wr).heap.size) => hbq.frozen (p := ⟨b, o, none⟩) h
                      have HBq := Lib.hid hbq
                      have HXq := Lib.hid hxq
                      clear hbq hxq
                     
                      clear x0 x1 x2 xf cp hcq hfq HTB
                      go_upto_region 20 with fail
                      refine name_world ?_
                      intro wa hwa
                      have A11 := Lib.hid (show wa.heap[wq.heap.size]? = some (.cells #[.int .i64 0, .int .i64 0, .bool false, .bool false, .bool false, .bool false, .bool false, .int .i64 0, .int .i64 0] descT (0, 0)) by rw [hwa]; exact (by repeat (first | (with_reducible assumption) | (exact heap_at _ _ (by simp; done)) | (with_reducible refine heap_old_is _ _ (by (first | omega | (simp; done) | (simp; omega))) ?_) | (with_reducible refine heap_far_is (by (first | omega | (simp; done) | (simp; omega))) ?_))))
                      have A8 := Lib.hid (show wa.heap[gq]? = some (.cells #[.int .i64 dk, .int .i64 df, .bool dr, .bool dw, .bool dx, .bool daf, .bool dng, .int .i64 dso, .int .i64 dno] descT (0, 0)) by rw [hwa]; exact (by repeat (first | (with_reducible assumption) | (with_reducible exact HXq.out) | (exact heap_at _ _ (by simp; done)) | (with_reducible refine heap_old_is _ _ (by (first | omega | (simp; done) | (simp; omega))) ?_) | (with_reducible refine heap_far_is (by (first | omega | (simp; done) | (simp; omega))) ?_))))
                      have AB := Lib.hid (show Below wr.heap.size wr wa by rw [hwa]; repeat' (first | (with_reducible exact Below.refl _ _) | (with_reducible (refine Below.setCell ?_ ?_ _)) | (with_reducible (refine Below.alloc ?_ ?_ _)) | (with_reducible (refine Below.drew ?_)) | (with_reducible (refine below_via ?_ HBq.out ?_)) | omega | (simp; done) | (simp; omega)))
                      have has : wq.heap.size + 1 ≤ wa.heap.size := by rw [hwa]; simp
                      clear hwa HXq
                      have HXA := Lib.hid ((AB.out.block _ hxv).trans HXV.out)
                      have HCPA := Lib.hid ((AB.out.cell (p := ⟨bp, op + k, none⟩) hbpr).trans HCP.out)
                      have x0 := cell_of_row _ _ 0 _ _ _ HXA.out
                      have x2 := cell_of_row _ _ 2 _ _ _ HXA.out
                      have xf := fun j => frozen_of_row _ _ j _ _ HXA.out
                      have cp := HCPA.out
                      have hxa := heap_lt HXA.out
                      have hbpa : bp < wa.heap.size := by omega
                     
                      go_cut [76] from 76 to 76 (fun v W => v = .bool tk ∧ Below wa.heap.size wa W)
                      case first =>
                        cases gm
                        · obtain rfl : tk = false := by rw [← HTK.out]; rfl
                          go_wp2_with fail
                          refine Calls.mono (HRM.out _) ?_
                          rintro e w2 ⟨rfl, hb2⟩
                          have hs2 := hb2.size
                          try simp at hs2
                          have HB2 := Lib.hid hb2
                          clear hb2
                          go_wp2_with fail
                          go_meet
                          case rel => exact ⟨rfl, HB2.out⟩
                        · cases gl
                          · obtain rfl : tk = false := by rw [← HTK.out]; rfl
                            go_wp2_with fail
                            refine Calls.mono (HRM.out _) ?_
                            rintro e w2 ⟨rfl, hb2⟩
                            have hs2 := hb2.size
                            try simp at hs2
                            have HB2 := Lib.hid hb2
                            clear hb2
                            go_wp2_with (go_at_call 16; refine (HPL.out _).mono ?_; rintro e w' ⟨rfl, rfl⟩)
                            go_meet
                            case rel => exact ⟨rfl, HB2.out⟩
                          · obtain rfl : tk = gp := by rw [← HTK.out]; simp
                            go_wp2_with fail
                            refine Calls.mono (HRM.out _) ?_
                            rintro e w2 ⟨rfl, hb2⟩
                            have hs2 := hb2.size
                            try simp at hs2
                            have hc2_0 := fun o => (bcell hb2).1 (w.heap.size) o (by first | omega | (simp; done) | (simp; omega))
                            have hf2_0 := fun o => (bcell hb2).2.1 (w.heap.size) o (by first | omega | (simp; done) | (simp; omega))
                            have hz2_0 := (bcell hb2).2.2 (w.heap.size) (by first | omega | (simp; done) | (simp; omega))
                            have hc2_1 := fun o => (bcell hb2).1 (bp) o (by first | omega | (simp; done) | (simp; omega))
                            have hf2_1 := fun o => (bcell hb2).2.1 (bp) o (by first | omega | (simp; done) | (simp; omega))
                            have hz2_1 := (bcell hb2).2.2 (bp) (by first | omega | (simp; done) | (simp; omega))
                            have HB2 := Lib.hid hb2
                            clear hb2
                            go_wp2_with (first | (go_at_call 16; refine (HPL.out _).mono ?_; rintro e w' ⟨rfl, rfl⟩) | (go_at_call 17; refine (HPP.out _).mono ?_; rintro e w' ⟨rfl, rfl⟩))
                            go_meet
                            case rel => exact ⟨rfl, HB2.out⟩
                      case rest =>
                       
                        obtain ⟨rfl, hbc⟩ := hcut
                        obtain ⟨wb, rfl⟩ : ∃ wb : World, wb = wc := ⟨_, rfl⟩
                        have HBC := Lib.hid hbc
                        have hsc := hbc.size
                        clear hbc x0 x2 xf cp
                        have B11 := Lib.hid ((HBC.out.block _ (by omega)).trans A11.out)
                        have B8 := Lib.hid ((HBC.out.block _ (heap_lt A8.out)).trans A8.out)
                        have BB := Lib.hid (show Below wr.heap.size wr wb from (by repeat' (first | (with_reducible exact Below.refl _ _) | (with_reducible (refine Below.setCell ?_ ?_ _)) | (with_reducible (refine Below.alloc ?_ ?_ _)) | (with_reducible (refine Below.drew ?_)) | (with_reducible (refine below_via ?_ HBC.out ?_)) | (with_reducible (refine below_via ?_ AB.out ?_)) | omega | (simp; done) | (simp; omega))))
                        have HXB := Lib.hid ((HBC.out.block _ hxa).trans HXA.out)
                        have HCPB := Lib.hid ((HBC.out.cell (p := ⟨bp, op + k, none⟩) hbpa).trans HCPA.out)
                        have hg8 : gq < wq.heap.size := by omega
                        clear A11 A8 AB HXA HCPA HRM HPL HPP HTK
                        go_upto_if 76 with fail
                        go_cut [10] from 77 to 77 (fun v W => v = .int .i64 er ∧ W.heap[wq.heap.size]? = some (.cells #[.int .i64 dk, .int .i64 df, .bool dr, .bool dw, .bool dx, .bool daf, .bool dng, .int .i64 dso, .int .i64 dno] descT (0, 0)) ∧ Below wq.heap.size wb W)
                        case first =>
                          cases tk
                          · obtain rfl : er = 1 := HER2.out.symm
                            have hn := HNO.out (by simp)
                            injection hn with n10 n11 n12 n13 n14 n15 n16 n17 n18
                            subst n10 n11 n12 n13 n14 n15 n16 n17 n18
                            go_wp2_with fail
                            go_meet
                            case rel => exact ⟨rfl, B11.out, Below.refl _ _⟩
                          · have x0 := cell_of_row _ _ 0 _ _ _ HXB.out
                            have x2 := cell_of_row _ _ 2 _ _ _ HXB.out
                            have xf := fun j => frozen_of_row _ _ j _ _ HXB.out
                            have cp := HCPB.out
                            have hxb : w.heap.size < wq.heap.size := by omega
                            have hbpb : bp < wq.heap.size := by omega
                            have hxb2 : w.heap.size < wb.heap.size := by omega
                            have hbpb2 : bp < wb.heap.size := by omega
                            cases fk
                            · obtain rfl : er = 2 := HER2.out.symm
                              have hn := HNO.out (by simp)
                              injection hn with n10 n11 n12 n13 n14 n15 n16 n17 n18
                              subst n10 n11 n12 n13 n14 n15 n16 n17 n18
                              go_wp2_with fail
                              refine Calls.mono (HFR.out _) ?_
                              rintro e w3 ⟨rfl, hb3⟩
                              have hs3 := hb3.size
                              try simp at hs3
                              have HB3 := Lib.hid hb3
                              clear hb3
                              go_wp2_with (go_at_call 18; refine (HNF.out _).mono ?_; rintro e w' ⟨rfl, rfl⟩)
                              go_meet
                              case rel => exact ⟨rfl, (HB3.out.block _ (heap_lt B11.out)).trans B11.out, HB3.out.mono (Nat.le_of_lt (heap_lt B11.out))⟩
                            · obtain rfl : er = 0 := HER2.out.symm
                              go_wp2_with fail
                              refine Calls.mono (HFR.out _) ?_
                              rintro e w3 ⟨rfl, hb3⟩
                              have hs3 := hb3.size
                              try simp at hs3
                              have hc3_0 := fun o => (bcell hb3).1 (w.heap.size) o (by first | omega | (simp; done) | (simp; omega))
                              have hf3_0 := fun o => (bcell hb3).2.1 (w.heap.size) o (by first | omega | (simp; done) | (simp; omega))
                              have hz3_0 := (bcell hb3).2.2 (w.heap.size) (by first | omega | (simp; done) | (simp; omega))
                              have hc3_1 := fun o => (bcell hb3).1 (bp) o (by first | omega | (simp; done) | (simp; omega))
                              have hf3_1 := fun o => (bcell hb3).2.1 (bp) o (by first | omega | (simp; done) | (simp; omega))
                              have hz3_1 := (bcell hb3).2.2 (bp) (by first | omega | (simp; done) | (simp; omega))
                              have HB3 := Lib.hid hb3
                              clear hb3
                              have C11 := Lib.hid ((HB3.out.block _ (heap_lt B11.out)).trans B11.out)
                              have hqw3 : wq.heap.size < w3.heap.size := heap_lt C11.out
                              have HRT3 := Lib.hid (fun W (hb : Below wq.heap.size w3 W) => HRT.out (by trivial) (by trivial) W (below_via (below_via BB.out HB3.out BB.out.size) hb (by omega)))
                              go_upto_region 23 with (go_at_call 18; refine (HNF.out _).mono ?_; rintro e w' ⟨rfl, hww⟩; have hww2 := hww.symm; subst hww2)
                             
                              refine wp_region_done (fun d w9 => PutC (w3) (wq.heap.size) 12 (descT) (#[.int .i64 0, .int .i64 0, .bool false, .bool false, .bool false, .bool false, .bool false, .int .i64 0, .int .i64 0]) (#[.int .i64 dk, .int .i64 df, .bool dr, .bool dw, .bool dx, .bool daf, .bool dng, .int .i64 dso, .int .i64 dno]) d w9) (by kernel_rfl) (by kernel_rfl) (putC_start (C11.out)) ?_
                              repeat (first
                                | (refine wpLex_pass (by rfl) (passes_done fun d w _ hc => putC_step hc (Below.refl _ _) (by rfl)) ?_; (conv => arg 9; simp only [put_lit, put_lit_none, List.set]))
                                | (refine wpLex_putc (by rfl) (by rfl) ?_
                                   apply Exists.intro
                                   refine ⟨?_, ?_⟩
                                   · intro w' hb
                                     have hsz := hb.size
                                     try simp at hsz
                                     have hcw := fun b o (h : b < wq.heap.size) => hb.cell (p := ⟨b, o, none⟩) h
                                     have hfw := fun b o (h : b < wq.heap.size) => hb.frozen (p := ⟨b, o, none⟩) h
                                     go_simp
                                     first
                                       | exact ⟨rfl, Below.refl _ _⟩
                                       | exact Below.refl _ _
                                       | ((with_reducible refine (HRT3.out _ (by repeat' (first | (with_reducible exact Below.refl _ _) | (with_reducible (refine Below.setCell ?_ ?_ _)) | (with_reducible (refine Below.alloc ?_ ?_ _)) | (with_reducible (refine Below.drew ?_)) | (with_reducible (refine below_via ?_ hb ?_)) | omega | (simp; done) | (simp; omega)))).mono ?_); rintro e w2 ⟨rfl, hb2⟩; exact ⟨_, rfl, rfl, hb2⟩)
                                   conv => arg 9; simp only [put_lit, put_lit_none, List.set])
                                | (refine wpLex_putst (by rfl) (by rfl) undef ?_ ?_
                                   · intro w' hb hz
                                     have hcw := fun b o (h : b < wq.heap.size) => hb.cell (p := ⟨b, o, none⟩) h
                                     have hzc := fun j => cell_of_row _ _ j _ _ _ hz
                                     have hzf := fun j => frozen_of_row _ _ j _ _ hz
                                     go_simp
                                     first
                                       | exact ⟨(by repeat' (first | (with_reducible exact Below.refl _ _) | (with_reducible (refine Below.setCell ?_ ?_ _)) | omega | (simp; done))), (by simp [World.setCell, Array.getElem?_modify, hz])⟩
                                   conv => arg 9; simp only [put_lit, put_lit_none, List.set]))
                              refine wpLex_nil ?_
                              intro wv dv hdv hCv
                              obtain ⟨hbv, hxv⟩ := putC_done hCv (hdv 12 (by decide))
                              clear hCv hdv
                              have hsv := heap_lt hxv
                              have hcv := fun b o (h : b < wq.heap.size) => hbv.cell (p := ⟨b, o, none⟩) h
                              have hfv := fun b o (h : b < wq.heap.size) => hbv.frozen (p := ⟨b, o, none⟩) h
                              have hxcv := fun j => cell_of_row _ _ j _ _ _ hxv
                              have hxfv := fun j => frozen_of_row _ _ j _ _ hxv
                              have HBv := Lib.hid hbv
                              have HXv := Lib.hid hxv
                              clear hbv hxv
                             
                              go_wp2_with fail
                              go_meet
                              case rel => exact ⟨rfl, HXv.out, below_via (HB3.out.mono (Nat.le_of_lt (heap_lt B11.out))) HBv.out (Nat.le_refl _)⟩
                        case rest =>
                         
                          obtain ⟨rfl, h11, hb2⟩ := hcut
                          obtain ⟨we, rfl⟩ : ∃ we : World, we = wc := ⟨_, rfl⟩
                          have C8 := Lib.hid ((hb2.block _ hg8).trans B8.out)
                          have C11 := Lib.hid h11
                          have HBE := Lib.hid (below_via BB.out hb2 (by omega))
                          clear h11 hb2
                          have e1 := fun j => cell_of_row _ _ j _ _ _ C8.out
                          have e2 := fun j => cell_of_row _ _ j _ _ _ C11.out
                          go_wp2_with (go_at_call 21; refine (HNU.out _ _).mono ?_; rintro e w' ⟨rfl, rfl⟩)
                          go_roundg (2 - (t + 1))
                          case rel => exact ⟨t + 1, by omega, rfl, by go_num, below_via HBT.out HBE.out HBT.out.size⟩
                          case measure => have := HGT.out; omega
                  · have hti : ¬ (t : Int) < 2 := by omega
                   
                    go_wp2
                    go_roundg (5 - (l + 1))
                    case rel => exact ⟨l + 1, by omega, rfl, by go_num, (by repeat' (first | (with_reducible exact Below.refl _ _) | (with_reducible (refine Below.setCell ?_ ?_ _)) | (with_reducible (refine Below.alloc ?_ ?_ _)) | (with_reducible (refine Below.drew ?_)) | (with_reducible (refine below_via ?_ HBT.out ?_)) | (with_reducible (refine below_via ?_ HBL.out ?_)) | omega | (simp; done) | (simp; omega)))⟩
                    case measure => have := HGL.out; omega
              · have hli : ¬ (l : Int) ≤ 4 := by omega
                go_wp2
                go_roundg (3 - (s + 1))
                case rel => exact ⟨s + 1, by omega, rfl, by go_num, (by repeat' (first | (with_reducible exact Below.refl _ _) | (with_reducible (refine Below.setCell ?_ ?_ _)) | (with_reducible (refine Below.alloc ?_ ?_ _)) | (with_reducible (refine Below.drew ?_)) | (with_reducible (refine below_via ?_ HBL.out ?_)) | (with_reducible (refine below_via ?_ HBV.out ?_)) | omega | (simp; done) | (simp; omega)))⟩
                case measure => have := HGS.out; omega
          · have hsi : ¬ (s : Int) + 1 ≤ 3 := by omega
            go_wp2
            go_roundg (12 - (k + 1))
            case rel => exact ⟨k + 1, by omega, by omega, rfl, by go_num, (by repeat' (first | (with_reducible exact Below.refl _ _) | (with_reducible (refine Below.setCell ?_ ?_ _)) | (with_reducible (refine Below.alloc ?_ ?_ _)) | (with_reducible (refine Below.drew ?_)) | (with_reducible (refine below_via ?_ HBV.out ?_)) | (with_reducible (refine below_via ?_ HBW.out ?_)) | omega | (simp; done) | (simp; omega)))⟩
            case measure => have := HGK.out; omega
      ·
        by_cases hka : k < pages.length
        · obtain rfl : k = 12 := by omega
          have hki : (12 : Int) < pages.length := by omega
          go_wp2_with fail
          refine Calls.mono (HWA.out _) ?_
          rintro e w5 ⟨rfl, hb5⟩
          have hs5 := hb5.size
          try simp at hs5
          have HB5 := Lib.hid hb5
          clear hb5
          go_wp2
          go_ret
          exact ⟨rfl, (by repeat' (first | (with_reducible exact Below.refl _ _) | (with_reducible (refine Below.setCell ?_ ?_ _)) | (with_reducible (refine Below.alloc ?_ ?_ _)) | (with_reducible (refine Below.drew ?_)) | (with_reducible (refine below_via ?_ HB5.out ?_)) | (with_reducible (refine below_via ?_ HBW.out ?_)) | (with_reducible (refine below_via ?_ HB.out ?_)) | omega | (simp; done) | (simp; omega)))⟩
        · have hki : ¬ (k : Int) < pages.length := by omega
          go_wp2_with fail
          refine Calls.mono (HWA.out _) ?_
          rintro e w5 ⟨rfl, hb5⟩
          have hs5 := hb5.size
          try simp at hs5
          have HB5 := Lib.hid hb5
          clear hb5
          go_wp2
          go_ret
          exact ⟨rfl, (by repeat' (first | (with_reducible exact Below.refl _ _) | (with_reducible (refine Below.setCell ?_ ?_ _)) | (with_reducible (refine Below.alloc ?_ ?_ _)) | (with_reducible (refine Below.drew ?_)) | (with_reducible (refine below_via ?_ HB5.out ?_)) | (with_reducible (refine below_via ?_ HBW.out ?_)) | (with_reducible (refine below_via ?_ HB.out ?_)) | omega | (simp; done) | (simp; omega)))⟩

end Go.Proofs.Ytddbndmbcdeggaa
