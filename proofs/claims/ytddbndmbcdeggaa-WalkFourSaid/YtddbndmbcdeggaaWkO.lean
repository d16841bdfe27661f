/-
  'WalkFour' returns true, and of what was there nothing has turned. Conditions: the argument reads as such.
-/
import Derived.Test.YtddbndmbcdeggaaWkL
import Derived.Test.YtddbndmbcdeggaaWin
namespace Go.Proofs.Ytddbndmbcdeggaa
open Go.RowKit

/-- What is true of every walk that may be asked for. -/
structure FourOk (n : Nat) (stage page : Int) (r : Ht × Ft × List Int) : Prop where
  len : r.2.2.length ≤ 4
  in_ : ∀ x ∈ r.2.2, numOk x ((n : Int) / 8 - 1) = true
  hit : r.2.1.kind = 0 → r.2.1 = noFt ∧ r.1.level = (r.2.2.length : Int) - 1 ∧ numOk r.1.frame ((n : Int) / 8 - 1) = true
  fault : r.2.1.kind ≠ 0 → r.1 = noHt ∧ r.2.1.stage = stage ∧ r.2.1.page = page ∧ (r.2.1.level = r.2.2.length ∨ r.2.1.level = (r.2.2.length : Int) - 1)

theorem walkG_four (ws : List Int) (stage page : Int) (hp : 0 ≤ page) : ∀ (n : Nat) (level fr : Int) (rd : List Int), level + n = 4 → level ≤ 3 → level = rd.length → 0 ≤ fr → (∀ x ∈ rd, numOk x ((ws.length : Int) / 8 - 1) = true) → FourOk ws.length stage page (walkG ws stage page n level fr rd)
  | 0, level, fr, rd, h4, h3, _, _, _ => by omega
  | n + 1, level, fr, rd, h4, h3, hl, hf, hin => by
    have hk := tabDe_kind ws stage level fr page
    unfold walkG
    by_cases h1 : (ws.length : Int) / 8 ≤ fr
    · rw [if_pos h1]
      exact ⟨by dsimp only; omega, hin, fun h => absurd h (show ¬ (1 : Int) = 0 by decide), fun _ => ⟨rfl, rfl, rfl, .inl hl⟩⟩
    · rw [if_neg h1]
      have hin2 : ∀ x ∈ rd ++ [fr], numOk x ((ws.length : Int) / 8 - 1) = true := fun x hx => by
        rcases List.mem_append.1 hx with hx | hx
        · exact hin x hx
        · rw [List.mem_singleton.1 hx]; unfold numOk; simp; omega
      have hlen : (rd ++ [fr]).length = rd.length + 1 := by simp
      by_cases h2 : (tabDe ws stage level fr page).kind = 0
      · rw [if_pos h2]
        exact ⟨by dsimp only; omega, hin2, fun h => absurd h (show ¬ (2 : Int) = 0 by decide), fun _ => ⟨rfl, rfl, rfl, .inr (by dsimp only; omega)⟩⟩
      · rw [if_neg h2]
        by_cases h5 : (tabDe ws stage level fr page).kind = 1
        · rw [if_pos h5]
          have hlt := hk.2.1 h5
          exact walkG_four ws stage page hp n (level + 1) (tabDe ws stage level fr page).frame (rd ++ [fr]) (by omega) (by omega) (by omega) hk.2.2.1 hin2
        · rw [if_neg h5]
          unfold leafH leafF
          have hm0 : 0 ≤ page % coversOf level := Int.emod_nonneg _ (by have : 0 < coversOf level := covers_pos _; omega)
          by_cases h6 : (tabDe ws stage level fr page).frame + page % coversOf level < (ws.length : Int) / 8
          · rw [if_pos h6, if_pos h6]
            refine ⟨by dsimp only; omega, hin2, fun _ => ⟨rfl, by dsimp only; omega, ?_⟩, fun h => absurd rfl h⟩
            unfold numOk
            have := hk.2.2.1
            dsimp only
            simp
            omega
          · rw [if_neg h6, if_neg h6]
            exact ⟨by dsimp only; omega, hin2, fun h => absurd h (show ¬ (1 : Int) = 0 by decide), fun _ => ⟨rfl, rfl, rfl, .inr (by dsimp only; omega)⟩⟩
theorem walkRes_four (ws : List Int) (stage frame page : Int) (h : walkOk ws.length stage frame page = true) : FourOk ws.length stage page (walkRes ws stage frame page) := by
  unfold walkRes
  rw [if_pos h]
  unfold walkOk numOk at h
  simp only [Bool.and_eq_true, decide_eq_true_eq] at h
  exact walkG_four ws stage page h.2.2.2.1 4 0 frame [] (by omega) (by omega) rfl h.2.2.1.1 (fun x hx => by cases hx)

set_option maxRecDepth 100000 in
set_option maxHeartbeats 16000000 in
theorem walkFour_walk (q : AskW) (w : World) (hq : AskWAt w q) :
    Calls Try.prog 5 #[.agg q.cells.toArray] w fun e w' => e = .returned (.bool true) ∧ Below w.heap.size w w' := by
  have HHV := Lib.hid (fun W => heavy5_any q W)
  obtain ⟨b, hb⟩ : ∃ b, heavyW q = b := ⟨_, rfl⟩
  rw [hb] at HHV
  have HLI := Lib.hid (fun (h : b = false) => heavyW_no (hb.trans h))
  have HME := Lib.hid (fun h => hq.me h)
  have HPA := Lib.hid hq.pat
  have HPO := Lib.hid hq.pok
  have hml := hq.mlen
  clear hb hq
  obtain ⟨ma, mc, ws, frame, pa, pc, pages⟩ := q
  dsimp only [AskW.cells] at *
  have HWA := Lib.hid (fun W => wakes5_any W)
  have HNU := Lib.hid (fun (n : Int) W => num5_any n W)
  obtain ⟨gm, hgm⟩ : ∃ b, memOk ws.length = b := ⟨_, rfl⟩
  obtain ⟨gf, hgf⟩ : ∃ b, numOk frame 4095 = b := ⟨_, rfl⟩
  have HRM := Lib.hid (fun W => refMem_any ma ws.length mc W (by omega))
  have HPF := Lib.hid (fun W => page_any frame W)
  rw [hgm] at HRM
  rw [hgf] at HPF
  have HGM := Lib.hid hgm
  have HGF := Lib.hid hgf
  clear hgm hgf
  go_enter Try.func5, Try.ntmps5
  go_wp2_with fail
  refine Calls.mono (HHV.out _) ?_
  rintro e w1 ⟨rfl, hb1⟩
  have hs1 := hb1.size
  try simp at hs1
  have hc1_0 := fun o => (bcell hb1).1 (w.heap.size) o (by first | omega | (simp; done) | (simp; omega))
  have hf1_0 := fun o => (bcell hb1).2.1 (w.heap.size) o (by first | omega | (simp; done) | (simp; omega))
  have hz1_0 := (bcell hb1).2.2 (w.heap.size) (by first | omega | (simp; done) | (simp; omega))
  have HB1 := Lib.hid hb1
  clear hb1
  cases b
  case true =>
    go_wp2
    go_ret
    exact ⟨rfl, (by repeat' (first | (with_reducible exact Below.refl _ _) | (with_reducible (refine Below.setCell ?_ ?_ _)) | (with_reducible (refine Below.alloc ?_ ?_ _)) | (with_reducible (refine Below.drew ?_)) | (with_reducible (refine below_via ?_ HB1.out ?_)) | omega | (simp; done) | (simp; omega)))⟩
  case false =>
    cases gm
    · go_wp2_with fail
      refine Calls.mono (HRM.out _) ?_
      rintro e w2 ⟨rfl, hb2⟩
      have hs2 := hb2.size
      try simp at hs2
      have HB2 := Lib.hid hb2
      clear hb2
      go_wp2
      go_ret
      exact ⟨rfl, (by repeat' (first | (with_reducible exact Below.refl _ _) | (with_reducible (refine Below.setCell ?_ ?_ _)) | (with_reducible (refine Below.alloc ?_ ?_ _)) | (with_reducible (refine Below.drew ?_)) | (with_reducible (refine below_via ?_ HB2.out ?_)) | (with_reducible (refine below_via ?_ HB1.out ?_)) | omega | (simp; done) | (simp; omega)))⟩
    · cases gf
      · go_wp2_with fail
        refine Calls.mono (HRM.out _) ?_
        rintro e w2 ⟨rfl, hb2⟩
        have hs2 := hb2.size
        try simp at hs2
        have hc2_0 := fun o => (bcell hb2).1 (w.heap.size) o (by first | omega | (simp; done) | (simp; omega))
        have hf2_0 := fun o => (bcell hb2).2.1 (w.heap.size) o (by first | omega | (simp; done) | (simp; omega))
        have hz2_0 := (bcell hb2).2.2 (w.heap.size) (by first | omega | (simp; done) | (simp; omega))
        have HB2 := Lib.hid hb2
        clear hb2
        go_wp2_with (go_at_call 17; refine (HPF.out _).mono ?_; rintro e w' ⟨rfl, rfl⟩)
        go_ret
        exact ⟨rfl, (by repeat' (first | (with_reducible exact Below.refl _ _) | (with_reducible (refine Below.setCell ?_ ?_ _)) | (with_reducible (refine Below.alloc ?_ ?_ _)) | (with_reducible (refine Below.drew ?_)) | (with_reducible (refine below_via ?_ HB2.out ?_)) | (with_reducible (refine below_via ?_ HB1.out ?_)) | omega | (simp; done) | (simp; omega)))⟩
      · obtain ⟨hw2, hp5⟩ := HLI.out rfl
        have HM := Lib.hid (HME.out hw2)
        clear HLI HME
        go_wp2_with fail
        refine Calls.mono (HRM.out _) ?_
        rintro e w2 ⟨rfl, hb2⟩
        have hs2 := hb2.size
        try simp at hs2
        have hc2_0 := fun o => (bcell hb2).1 (w.heap.size) o (by first | omega | (simp; done) | (simp; omega))
        have hf2_0 := fun o => (bcell hb2).2.1 (w.heap.size) o (by first | omega | (simp; done) | (simp; omega))
        have hz2_0 := (bcell hb2).2.2 (w.heap.size) (by first | omega | (simp; done) | (simp; omega))
        have HB2 := Lib.hid hb2
        clear hb2
        go_wp2_with (go_at_call 17; refine (HPF.out _).mono ?_; rintro e w' ⟨rfl, hww⟩; have hww2 := hww.symm; subst hww2)
        have HX := Lib.hid (show w2.heap[w.heap.size]? = some (.cells #[.slice ma ws.length mc, .int .i64 frame, .slice pa pages.length pc] ask5T (0, 0)) from (by repeat (first | (with_reducible assumption) | (with_reducible refine heap_below_is HB2.out (by (first | omega | (simp; done) | (simp; omega))) ?_) | (with_reducible refine heap_below_is HB1.out (by (first | omega | (simp; done) | (simp; omega))) ?_) | (exact heap_at _ _ (by simp; done)) | (with_reducible refine heap_old_is _ _ (by (first | omega | (simp; done) | (simp; omega))) ?_) | (with_reducible refine heap_far_is (by (first | omega | (simp; done) | (simp; omega))) ?_))))
        have HB := Lib.hid ((by repeat' (first | (with_reducible exact Below.refl _ _) | (with_reducible (refine Below.setCell ?_ ?_ _)) | (with_reducible (refine Below.alloc ?_ ?_ _)) | (with_reducible (refine Below.drew ?_)) | (with_reducible (refine below_via ?_ HB2.out ?_)) | (with_reducible (refine below_via ?_ HB1.out ?_)) | omega | (simp; done) | (simp; omega))) : Below w.heap.size w w2)
        have hz2 := heap_lt HX.out
        clear hc1_0 hf1_0 hz1_0 hc2_0 hf2_0 hz2_0 HRM HPF
       
        go_loopg [3] 40 (fun gg i wr => ∃ k : Nat, k ≤ pages.length ∧ k ≤ 40 ∧ gg = 40 - k ∧ i = .int .i64 k ∧ Below w2.heap.size w2 wr)
        case atStart => exact ⟨0, Nat.zero_le _, Nat.zero_le _, rfl, rfl, Below.refl _ _⟩
        case round =>
          obtain ⟨k, hk, hk12, hgk, rfl, hbw⟩ := hrel
          have HGK := Lib.hid hgk
          clear hgk
          have HXR := Lib.hid ((hbw.block _ hz2).trans HX.out)
          have HBW := Lib.hid hbw
          have hsw := hbw.size
          clear hbw
          have ef := fun j => frozen_of_row _ _ j _ _ HXR.out
          have e2 := cell_of_row _ _ 2 _ _ _ HXR.out
          have hxl := heap_lt HXR.out
          by_cases hlt : k < pages.length ∧ k < 40
          · obtain ⟨hlt, hlt12⟩ := hlt
            have hki : (k : Int) < pages.length := by omega
            have q12 : decide ((k : Int) < 40) = true := by simp; omega
            have HBR := Lib.hid (show Below w.heap.size w wr from (by repeat' (first | (with_reducible exact Below.refl _ _) | (with_reducible (refine Below.setCell ?_ ?_ _)) | (with_reducible (refine Below.alloc ?_ ?_ _)) | (with_reducible (refine Below.drew ?_)) | (with_reducible (refine below_via ?_ HBW.out ?_)) | (with_reducible (refine below_via ?_ HB.out ?_)) | omega | (simp; done) | (simp; omega))))
            obtain ⟨bp, op, rfl, hbp, hcp⟩ := at_cell HPA.out HBR.out hlt rfl
            have hin := HPO.out _ (List.getElem_mem hlt)
            obtain ⟨page, hpage⟩ : ∃ x, pages[k] = x := ⟨_, rfl⟩
            rw [hpage] at hcp hin
            clear hpage
            have hbpr : bp < wr.heap.size := by have := HBR.out.size; omega
            have HWI := Lib.hid (fun W => within_any page 4096 W (by decide) (by decide) hin)
            have hwr := within_lt page 4096 (by decide)
            obtain ⟨pg, hpg⟩ : ∃ x, withinOf page 4096 = x := ⟨_, rfl⟩
            rw [hpg] at HWI hwr
            obtain ⟨hpg0, hpg1⟩ := hwr
            clear hpg hin
            go_wp2_with (go_at_call 13; refine (HWI.out _).mono ?_; rintro e w' ⟨rfl, hww⟩; have hww2 := hww.symm; subst hww2)
            clear e2 ef hcp HWI
            obtain ⟨wo, rfl⟩ : ∃ wo : World, wo = wr := ⟨_, rfl⟩
           
            go_loopg [5] 2 (fun gg j wr => ∃ s : Nat, s ≤ 2 ∧ gg = 2 - s ∧ j = .int .i64 ((s : Int) + 1) ∧ Below wo.heap.size wo wr)
            case atStart => exact ⟨0, Nat.zero_le _, rfl, rfl, Below.refl _ _⟩
            case round =>
              obtain ⟨s, hs2, hgs, rfl, hbv⟩ := hrel
              have HGS := Lib.hid hgs
              have HXV := Lib.hid ((hbv.block _ hxl).trans HXR.out)
              have HBV := Lib.hid hbv
              have hsv := hbv.size
              clear hgs hbv
              have HBS := Lib.hid (show Below w.heap.size w wr from (by repeat' (first | (with_reducible exact Below.refl _ _) | (with_reducible (refine Below.setCell ?_ ?_ _)) | (with_reducible (refine Below.alloc ?_ ?_ _)) | (with_reducible (refine Below.drew ?_)) | (with_reducible (refine below_via ?_ HBV.out ?_)) | (with_reducible (refine below_via ?_ HBR.out ?_)) | omega | (simp; done) | (simp; omega))))
              by_cases hs : s ≤ 1
              · have hsi : (s : Int) + 1 ≤ 2 := by omega
                have hok : walkOk ws.length ((s : Int) + 1) frame pg = true := by
                  unfold walkOk
                  rw [HGM.out, HGF.out, show ((s : Int) + 1 == 1 || (s : Int) + 1 == 2) = true by simp; omega, show numOk pg 4095 = true by unfold numOk; simp; omega]
                  rfl
                have HWK := Lib.hid (fun W (hb : Below wr.heap.size wr W) => Walk_any ma mc ws ((s : Int) + 1) frame pg W ((HM.out.below HBS.out).below hb))
                rw [show walkEr ws.length ((s : Int) + 1) frame pg = 0 by unfold walkEr; rw [hok]; rfl] at HWK
                have h4 := walkRes_four ws ((s : Int) + 1) frame pg hok
                obtain ⟨r, hr⟩ : ∃ r, walkRes ws ((s : Int) + 1) frame pg = r := ⟨_, rfl⟩
                rw [hr] at HWK h4
                clear hr hok
                obtain ⟨hlen4, hin4, hhit4, hfau4⟩ := h4
                obtain ⟨⟨l0, l1, l2, l3, l4, l5, l6, l7, l8⟩, ⟨m0, m1, m2, m3, m4⟩, rd⟩ := r
                dsimp only [Ht.cells, Ft.cells] at HWK hlen4 hin4 hhit4 hfau4
                have HHIT := Lib.hid hhit4
                have HFAU := Lib.hid hfau4
                have HIN := Lib.hid hin4
                unfold WPost at HWK
                clear hhit4 hfau4 hin4
                have HFR := Lib.hid (fun W => refFrames_any ma ws.length mc W (by omega))
                have hw8 : IntKind.i64.wrap ((ws.length : Int) / 8 - 1) = (ws.length : Int) / 8 - 1 := IntWalk.i64_in _ (by omega)
                have x0 := cell_of_row _ _ 0 _ _ _ HXV.out
                have x1 := cell_of_row _ _ 1 _ _ _ HXV.out
                have xf := fun j => frozen_of_row _ _ j _ _ HXV.out
                have hxv := heap_lt HXV.out
               
                go_wp2_with fail
                refine Calls.mono (HWK.out _ (Below.refl _ _)) ?_
                rintro e w3 ⟨R, c, rfl, ho, hb3⟩
                have hs3 := hb3.size
                try simp at hs3
                have HB3 := Lib.hid hb3
                clear hb3
                have Hho := Lib.hid ho
                clear ho
                go_upto_region 11 with fail
                refine name_world ?_
                intro wa hwa
                have A6 := Lib.hid (show wa.heap[w3.heap.size]? = some (.cells #[.int .i64 l0, .int .i64 l1, .bool l2, .bool l3, .bool l4, .bool l5, .bool l6, .int .i64 l7, .int .i64 l8] hitT (0, 0)) by rw [hwa]; exact (by repeat (first | (with_reducible assumption) | (exact heap_at _ _ (by simp; done)) | (with_reducible refine heap_old_is _ _ (by (first | omega | (simp; done) | (simp; omega))) ?_) | (with_reducible refine heap_far_is (by (first | omega | (simp; done) | (simp; omega))) ?_))))
                have A7 := Lib.hid (show wa.heap[w3.heap.size + 1]? = some (.cells #[.int .i64 m0, .int .i64 m1, .int .i64 m2, .bool m3, .int .i64 m4] faultT (0, 0)) by rw [hwa]; exact (by repeat (first | (with_reducible assumption) | (exact heap_at _ _ (by simp; done)) | (with_reducible refine heap_old_is _ _ (by (first | omega | (simp; done) | (simp; omega))) ?_) | (with_reducible refine heap_far_is (by (first | omega | (simp; done) | (simp; omega))) ?_))))
                have AO := Lib.hid (show Own wa wr.heap.size intT 1 intCells rd R c by rw [hwa]; exact (by repeat (first | (with_reducible exact Own.mono Hho.out (by (first | omega | (simp; done) | (simp; omega)))) | (with_reducible refine Own.set_far ?_ (by (first | omega | (simp; done) | (simp; omega))) _) | (with_reducible refine Own.alloc ?_ _) | (with_reducible refine Own.drew ?_))))
                have AB := Lib.hid (show Below wr.heap.size wr wa by rw [hwa]; repeat' (first | (with_reducible exact Below.refl _ _) | (with_reducible (refine Below.setCell ?_ ?_ _)) | (with_reducible (refine Below.alloc ?_ ?_ _)) | (with_reducible (refine Below.drew ?_)) | (with_reducible (refine below_via ?_ HB3.out ?_)) | omega | (simp; done) | (simp; omega)))
                clear hwa x0 x1 xf Hho
                have has := AB.out.size
                have q4 : decide ((4 : Int) < rd.length) = false := by simp; omega
                have hrdl := hlen4
               
                go_wp2_with (go_at_call 21; refine (HNU.out _ _).mono ?_; rintro e w' ⟨rfl, hww⟩; have hww2 := hww.symm; subst hww2)
                have HRU := Lib.hid (Below.refl wa.heap.size wa)
                go_loopw [10] (fun j wl => ∃ i : Nat, i ≤ rd.length ∧ j = .int .i64 i ∧ Below wa.heap.size wa wl) (fun j _ => rd.length - (intOf j).toNat)
                case atStart => exact ⟨0, Nat.zero_le _, rfl, HRU.out⟩
                case round =>
                  obtain ⟨i, hi, rfl, hbl⟩ := hrel
                  have HBL := Lib.hid hbl
                  have hsl := hbl.size
                  clear hbl
                  have L6 := Lib.hid ((HBL.out.block _ (heap_lt A6.out)).trans A6.out)
                  have L7 := Lib.hid ((HBL.out.block _ (heap_lt A7.out)).trans A7.out)
                  have LO := Lib.hid (AO.out.below HBL.out (Nat.le_refl _))
                  have LB := Lib.hid (below_via AB.out HBL.out has)
                  have HXL := Lib.hid ((LB.out.block _ hxv).trans HXV.out)
                  have x0 := cell_of_row _ _ 0 _ _ _ HXL.out
                  have xf := fun j => frozen_of_row _ _ j _ _ HXL.out
                  have hxl2 := heap_lt HXL.out
                  by_cases hir : i < rd.length
                  · have hii : (i : Int) < rd.length := by omega
                    obtain ⟨g, rfl, hg1, hg2, hg3⟩ := LO.out.spot (by omega)
                    have hcl := LO.out.cell int_len hir (j := 0) rfl
                    simp only [Nat.mul_one, Nat.add_zero] at hcl
                    have hnu := HIN.out _ (List.getElem_mem hir)
                    obtain ⟨y, hy⟩ : ∃ y, rd[i] = y := ⟨_, rfl⟩
                    rw [hy] at hcl hnu
                    have hgl : g < wr.heap.size := hg2
                    have HNM := Lib.hid (fun W => num_any y ((ws.length : Int) / 8 - 1) W)
                    rw [hnu] at HNM
                    clear hy hnu hg3
                   
                    go_wp2_with fail
                    refine wp_region_class (fun w' => Below (wr.heap.size) (wr) w') (by kernel_rfl) (by kernel_rfl) (Below.refl _ _).drew ?_
                    repeat (first
                      | (refine wpLex_pass (by rfl) passes_plain ?_; (conv => arg 9; simp only [put_lit, put_lit_none, List.set]))
                      | (refine wpLex_plain (by rfl) ?_
                         apply Exists.intro
                         refine ⟨?_, ?_⟩
                         · intro w' hb
                           have hsz := hb.size
                           try simp at hsz
                           have hcw := fun b o (h : b < wr.heap.size) => hb.cell (p := ⟨b, o, none⟩) h
                           have hfw := fun b o (h : b < wr.heap.size) => hb.frozen (p := ⟨b, o, none⟩) h
                           go_simp
                           first
                             | exact ⟨rfl, hb⟩
                             | exact rfl
                             | ((with_reducible refine Calls.mono (HFR.out _) ?_); rintro e w2 ⟨rfl, hb2⟩; exact ⟨_, rfl, rfl, hb.trans (hb2.mono hsz)⟩)
                             | ((with_reducible refine Calls.mono (HNM.out _) ?_); rintro e w2 ⟨rfl, rfl⟩; exact ⟨_, rfl, rfl, hb⟩)
                         conv => arg 9; simp only [put_lit, put_lit_none, List.set]))
                    refine wpLex_nil ?_
                    intro wq hbq
                    have hsq := hbq.size
                    try simp at hsq
                    have hcq := fun b o (h : b < wr.heap.size) => hbq.cell (p := ⟨b, o, none⟩) h
                    have hfq := fun b o (h : b < wr.heap.size) => hbq.frozen (p := ⟨b, o, none⟩) h
                    have HBq := Lib.hid hbq
                    clear hbq
                   
                    go_wp2_with fail
                    go_roundw
                    case rel => exact ⟨i + 1, by omega, by go_num, below_via HBL.out HBq.out HBL.out.size⟩
                    case measure => simp [intOf]; omega
                  · obtain rfl : i = rd.length := by omega
                    obtain ⟨wl, rfl⟩ : ∃ wl : World, wl = wr := ⟨_, rfl⟩
                    have y6 := fun j => cell_of_row _ _ j _ _ _ L6.out
                    have y7 := fun j => cell_of_row _ _ j _ _ _ L7.out
                    have h6l := heap_lt L6.out
                    have h7l := heap_lt L7.out
                    have hwl1 : IntKind.i64.wrap ((rd.length : Int) - 1) = (rd.length : Int) - 1 := IntWalk.i64_in _ (by omega)
                    by_cases hm : m0 = 0
                    · have hh := HHIT.out hm
                      obtain ⟨hf4, hl8, hnf⟩ := hh
                      injection hf4 with n0 n1 n2 n3 n4
                      subst n0 n1 n2 n3 n4 hl8
                      have HNM := Lib.hid (fun W => num_any l0 ((ws.length : Int) / 8 - 1) W)
                      rw [hnf] at HNM
                      clear hnf
                     
                      go_upto_region 18 with fail
                      refine wp_region_class (fun w' => Below (wl.heap.size) (wl) w') (by kernel_rfl) (by kernel_rfl) (Below.refl _ _).drew ?_
                      repeat (first
                        | (refine wpLex_pass (by rfl) passes_plain ?_; (conv => arg 9; simp only [put_lit, put_lit_none, List.set]))
                        | (refine wpLex_plain (by rfl) ?_
                           apply Exists.intro
                           refine ⟨?_, ?_⟩
                           · intro w' hb
                             have hsz := hb.size
                             try simp at hsz
                             have hcw := fun b o (h : b < wl.heap.size) => hb.cell (p := ⟨b, o, none⟩) h
                             have hfw := fun b o (h : b < wl.heap.size) => hb.frozen (p := ⟨b, o, none⟩) h
                             go_simp
                             first
                               | exact ⟨rfl, hb⟩
                               | exact rfl
                               | ((with_reducible refine Calls.mono (HFR.out _) ?_); rintro e w2 ⟨rfl, hb2⟩; exact ⟨_, rfl, rfl, hb.trans (hb2.mono hsz)⟩)
                               | ((with_reducible refine Calls.mono (HNM.out _) ?_); rintro e w2 ⟨rfl, rfl⟩; exact ⟨_, rfl, rfl, hb⟩)
                           conv => arg 9; simp only [put_lit, put_lit_none, List.set]))
                      refine wpLex_nil ?_
                      intro wq hbq
                      have hsq := hbq.size
                      try simp at hsq
                      have hcq := fun b o (h : b < wl.heap.size) => hbq.cell (p := ⟨b, o, none⟩) h
                      have hfq := fun b o (h : b < wl.heap.size) => hbq.frozen (p := ⟨b, o, none⟩) h
                      have HBq := Lib.hid hbq
                      clear hbq
                      have HQ6 := Lib.hid ((HBq.out.block _ h6l).trans L6.out)
                      have HQ7 := Lib.hid ((HBq.out.block _ h7l).trans L7.out)
                      clear y6 y7 hcq hfq x0 xf
                      have y6 := fun j => cell_of_row _ _ j _ _ _ HQ6.out
                      have y7 := fun j => cell_of_row _ _ j _ _ _ HQ7.out
                     
                      go_wp2_with fail
                      go_roundg (2 - (s + 1))
                      case rel => exact ⟨s + 1, by omega, rfl, by go_num, below_via HBV.out (below_via LB.out HBq.out LB.out.size) HBV.out.size⟩
                      case measure => have := HGS.out; omega
                    · have hh := HFAU.out hm
                      obtain ⟨hf4, h1, h2, h3⟩ := hh
                      injection hf4 with n0 n1 n2 n3 n4 n5 n6 n7 n8
                      subst n0 n1 n2 n3 n4 n5 n6 n7 n8 h1 h2
                      have qm : (m0 == 0) = false := by simpa using hm
                      have qm2 : (m0 != 0) = true := by simpa using hm
                     
                      go_upto_region 18 with fail
                      refine wp_region_class (fun w' => Below (wl.heap.size) (wl) w') (by kernel_rfl) (by kernel_rfl) (Below.refl _ _).drew ?_
                      repeat (first
                        | (refine wpLex_pass (by rfl) passes_plain ?_; (conv => arg 9; simp only [put_lit, put_lit_none, List.set]))
                        | (refine wpLex_plain (by rfl) ?_
                           apply Exists.intro
                           refine ⟨?_, ?_⟩
                           · intro w' hb
                             have hsz := hb.size
                             try simp at hsz
                             have hcw := fun b o (h : b < wl.heap.size) => hb.cell (p := ⟨b, o, none⟩) h
                             have hfw := fun b o (h : b < wl.heap.size) => hb.frozen (p := ⟨b, o, none⟩) h
                             go_simp
                             first
                               | exact ⟨rfl, hb⟩
                               | exact rfl
                           conv => arg 9; simp only [put_lit, put_lit_none, List.set]))
                      refine wpLex_nil ?_
                      intro wq hbq
                      have hsq := hbq.size
                      try simp at hsq
                      have hcq := fun b o (h : b < wl.heap.size) => hbq.cell (p := ⟨b, o, none⟩) h
                      have hfq := fun b o (h : b < wl.heap.size) => hbq.frozen (p := ⟨b, o, none⟩) h
                      have HBq := Lib.hid hbq
                      clear hbq
                      have HQ6 := Lib.hid ((HBq.out.block _ h6l).trans L6.out)
                      have HQ7 := Lib.hid ((HBq.out.block _ h7l).trans L7.out)
                      clear y6 y7 hcq hfq x0 xf
                      have y6 := fun j => cell_of_row _ _ j _ _ _ HQ6.out
                      have y7 := fun j => cell_of_row _ _ j _ _ _ HQ7.out
                      rcases h3 with h3 | h3
                      · subst h3
                       
                        go_wp2_with fail
                        go_roundg (2 - (s + 1))
                        case rel => exact ⟨s + 1, by omega, rfl, by go_num, below_via HBV.out (below_via LB.out HBq.out LB.out.size) HBV.out.size⟩
                        case measure => have := HGS.out; omega
                      · subst h3
                        have qn : (((rd.length : Int) - 1) != (rd.length : Int)) = true := by simp; omega
                       
                        go_wp2_with fail
                        go_roundg (2 - (s + 1))
                        case rel => exact ⟨s + 1, by omega, rfl, by go_num, below_via HBV.out (below_via LB.out HBq.out LB.out.size) HBV.out.size⟩
                        case measure => have := HGS.out; omega
              · have hsi : ¬ (s : Int) + 1 ≤ 2 := by omega
               
                go_wp2
                go_roundg (40 - (k + 1))
                case rel => exact ⟨k + 1, by omega, by omega, rfl, by go_num, (by repeat' (first | (with_reducible exact Below.refl _ _) | (with_reducible (refine Below.setCell ?_ ?_ _)) | (with_reducible (refine Below.alloc ?_ ?_ _)) | (with_reducible (refine Below.drew ?_)) | (with_reducible (refine below_via ?_ HBV.out ?_)) | (with_reducible (refine below_via ?_ HBW.out ?_)) | omega | (simp; done) | (simp; omega)))⟩
                case measure => have := HGK.out; omega
          ·
            by_cases hka : k < pages.length
            · obtain rfl : k = 40 := by omega
              have hki : (40 : Int) < pages.length := by omega
              go_wp2_with fail
              refine Calls.mono (HWA.out _) ?_
              rintro e w5 ⟨rfl, hb5⟩
              have hs5 := hb5.size
              try simp at hs5
              have HB5 := Lib.hid hb5
              clear hb5
              go_wp2
              go_ret
              exact ⟨rfl, (by repeat' (first | (with_reducible exact Below.refl _ _) | (with_reducible (refine Below.setCell ?_ ?_ _)) | (with_reducible (refine Below.alloc ?_ ?_ _)) | (with_reducible (refine Below.drew ?_)) | (with_reducible (refine below_via ?_ HB5.out ?_)) | (with_reducible (refine below_via ?_ HBW.out ?_)) | (with_reducible (refine below_via ?_ HB.out ?_)) | omega | (simp; done) | (simp; omega)))⟩
            · have hki : ¬ (k : Int) < pages.length := by omega
              go_wp2_with fail
              refine Calls.mono (HWA.out _) ?_
              rintro e w5 ⟨rfl, hb5⟩
              have hs5 := hb5.size
              try simp at hs5
              have HB5 := Lib.hid hb5
              clear hb5
              go_wp2
              go_ret
              exact ⟨rfl, (by repeat' (first | (with_reducible exact Below.refl _ _) | (with_reducible (refine Below.setCell ?_ ?_ _)) | (with_reducible (refine Below.alloc ?_ ?_ _)) | (with_reducible (refine Below.drew ?_)) | (with_reducible (refine below_via ?_ HB5.out ?_)) | (with_reducible (refine below_via ?_ HBW.out ?_)) | (with_reducible (refine below_via ?_ HB.out ?_)) | omega | (simp; done) | (simp; omega)))⟩

end Go.Proofs.Ytddbndmbcdeggaa
