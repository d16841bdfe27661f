/-
  'NestConfined' returns true, and of what was there nothing has turned. Conditions: the argument reads as such.
-/
import Derived.Test.YtddbndmbcdeggaaNsQ
import Derived.Test.YtddbndmbcdeggaaWin
namespace Go.Proofs.Ytddbndmbcdeggaa
open Go.RowKit

theorem within_b (i n : Int) (w : World) (h0 : 0 < n) (h1 : n ≤ 1000000) (hi : -9223372036854775808 ≤ i ∧ i ≤ 9223372036854775807) :
    Calls Try.prog 13 #[.int .i64 i, .int .i64 n] w fun e w' => e = .returned (.int .i64 (withinOf i n)) ∧ Below w.heap.size w w' :=
  (within_any i n w h0 h1 hi).mono fun _ _ h => ⟨h.1, by rw [h.2]; exact Below.refl _ _⟩
theorem given_in {ws : List Int} {two : Rt} {tabs lets : List Int} (h : Holds2 ws two 4096 tabs lets) {x : Int} (hx : Given2 ws two x) : x ∈ tabs ∨ x ∈ lets := by
  obtain ⟨mid, h0, h1, h2⟩ := hx
  obtain ⟨i, rfl⟩ := Int.eq_ofNat_of_zero_le h0
  have h3 := h i (by omega)
  rcases h2 with h2 | ⟨hk, rfl⟩
  · exact .inl (h3.1 x h2)
  · exact .inr (h3.2 hk)

set_option maxRecDepth 100000 in
set_option maxHeartbeats 16000000 in
theorem nestConfined_walk (q : AskN) (w : World) (hq : AskWAt w q.a) :
    Calls Try.prog 8 #[.agg q.cells.toArray] w fun e w' => e = .returned (.bool true) ∧ Below w.heap.size w w' := by
  have HHV := Lib.hid (fun W => heavy5_any q.a W)
  obtain ⟨b, hb⟩ : ∃ b, heavyW q.a = b := ⟨_, rfl⟩
  rw [hb] at HHV
  have HLI := Lib.hid (fun (h : b = false) => heavyW_no (hb.trans h))
  have HME := Lib.hid (fun h => hq.me h)
  have HPA := Lib.hid hq.pat
  have HPO := Lib.hid hq.pok
  have HML := Lib.hid hq.mlen
  have HMY := Lib.hid (fun W => may7_any q 0 0 W (by have := HML.out; omega))
  obtain ⟨gm, hgm⟩ : ∃ g, midOk q.a.ws.length q.two 0 0 = g := ⟨_, rfl⟩
  rw [hgm] at HMY
  have HPF := Lib.hid (fun W => page_any q.one.frame W)
  obtain ⟨gf, hgf⟩ : ∃ g, numOk q.one.frame 4095 = g := ⟨_, rfl⟩
  rw [hgf] at HPF
  have HGM := Lib.hid hgm
  have HGF := Lib.hid hgf
  clear hb hq hgm hgf
  obtain ⟨⟨ma, mc, ws, frame, pa, pc, pages⟩, ⟨on1, of1, ot1⟩, ⟨on2, of2, ot2⟩, ac⟩ := q
  dsimp only [AskN.cells, AskW.cells] at *
  have HWA := Lib.hid (fun W => wakes7_any W)
  have HNU := Lib.hid (fun (n : Int) W => num7_any n W)
  by_cases hall : b = false ∧ gm = true ∧ gf = true ∧ on2 = true
  · obtain ⟨rfl, rfl, rfl, rfl⟩ := hall
    obtain ⟨hw2, hp5⟩ := HLI.out rfl
    have HM := Lib.hid (HME.out hw2)
    obtain ⟨-, hmem, h2f, -⟩ := midOk_parts HGM.out
    have HMEM := Lib.hid hmem
    have H2F := Lib.hid h2f
    clear HLI HME HML hmem h2f
    have HRE := Lib.hid (fun W (hb : Below w.heap.size w W) => reach_any ma mc ws ⟨true, of2, ot2⟩ W (HM.out.below hb) HMEM.out H2F.out)
    dsimp only [Rt.cells] at HRE
    go_enter Try.func8, Try.ntmps8
    go_wp2_with fail
    refine Calls.mono (HHV.out _) ?_
    rintro e w1 ⟨rfl, hb1⟩
    have hs1 := hb1.size
    try simp at hs1
    have hc1_0 := fun o => (bcell hb1).1 (w.heap.size) o (by first | omega | (simp; done) | (simp; omega))
    have hf1_0 := fun o => (bcell hb1).2.1 (w.heap.size) o (by first | omega | (simp; done) | (simp; omega))
    have hz1_0 := (bcell hb1).2.2 (w.heap.size) (by first | omega | (simp; done) | (simp; omega))
    have HB1 := Lib.hid hb1
    clear hb1
    go_wp2_with fail
    refine Calls.mono (HMY.out _) ?_
    rintro e w2 ⟨rfl, hb2⟩
    have hs2 := hb2.size
    try simp at hs2
    have hc2_0 := fun o => (bcell hb2).1 (w.heap.size) o (by first | omega | (simp; done) | (simp; omega))
    have hf2_0 := fun o => (bcell hb2).2.1 (w.heap.size) o (by first | omega | (simp; done) | (simp; omega))
    have hz2_0 := (bcell hb2).2.2 (w.heap.size) (by first | omega | (simp; done) | (simp; omega))
    have HB2 := Lib.hid hb2
    clear hb2
    go_wp2_with (go_at_call 17; refine (HPF.out _).mono ?_; rintro e w' ⟨rfl, rfl⟩)
   
    refine Calls.mono (HRE.out _ (by repeat' (first | (with_reducible exact Below.refl _ _) | (with_reducible (refine Below.setCell ?_ ?_ _)) | (with_reducible (refine Below.alloc ?_ ?_ _)) | (with_reducible (refine Below.drew ?_)) | (with_reducible (refine below_via ?_ HB2.out ?_)) | (with_reducible (refine below_via ?_ HB1.out ?_)) | omega | (simp; done) | (simp; omega)))) ?_
    rintro e w3 ⟨T, ct, tabs, L, cl, lets, rfl, hot, hol, htl, hll, hho, hb3⟩
    have hs3 := hb3.size
    try simp at hs3
    have hc3_0 := fun o => (bcell hb3).1 (w.heap.size) o (by first | omega | (simp; done) | (simp; omega))
    have hf3_0 := fun o => (bcell hb3).2.1 (w.heap.size) o (by first | omega | (simp; done) | (simp; omega))
    have hz3_0 := (bcell hb3).2.2 (w.heap.size) (by first | omega | (simp; done) | (simp; omega))
    have HB3 := Lib.hid hb3
    clear hb3
    have Hhot := Lib.hid hot
    clear hot
    have Hhol := Lib.hid hol
    clear hol
    have Hhho := Lib.hid hho
    clear hho
   
    have HX := Lib.hid (show w3.heap[w.heap.size]? = some (.cells #[.slice ma ws.length mc, .int .i64 frame, .slice pa pages.length pc, .bool on1, .int .i64 of1, .int .i64 ot1, .bool true, .int .i64 of2, .int .i64 ot2, .int .i64 ac] 57 (0, 0)) from (by repeat (first | (with_reducible assumption) | (with_reducible refine heap_below_is HB3.out (by (first | omega | (simp; done) | (simp; omega))) ?_) | (with_reducible refine heap_below_is HB2.out (by (first | omega | (simp; done) | (simp; omega))) ?_) | (with_reducible refine heap_below_is HB1.out (by (first | omega | (simp; done) | (simp; omega))) ?_) | (exact heap_at _ _ (by simp; done)) | (with_reducible refine heap_old_is _ _ (by (first | omega | (simp; done) | (simp; omega))) ?_) | (with_reducible refine heap_far_is (by (first | omega | (simp; done) | (simp; omega))) ?_))))
    have HB := Lib.hid ((by repeat' (first | (with_reducible exact Below.refl _ _) | (with_reducible (refine Below.setCell ?_ ?_ _)) | (with_reducible (refine Below.alloc ?_ ?_ _)) | (with_reducible (refine Below.drew ?_)) | (with_reducible (refine below_via ?_ HB3.out ?_)) | (with_reducible (refine below_via ?_ HB2.out ?_)) | (with_reducible (refine below_via ?_ HB1.out ?_)) | omega | (simp; done) | (simp; omega))) : Below w.heap.size w w3)
    have HTA := Lib.hid (Hhot.out.at_ int_len)
    have HLA := Lib.hid (Hhol.out.at_ int_len)
    have hz3 := heap_lt HX.out
    clear hc1_0 hf1_0 hz1_0 hc2_0 hf2_0 hz2_0 hc3_0 hf3_0 hz3_0 Hhot Hhol HB1 HB2 HB3 HRE HMY HPF HHV
    go_wp2_with fail
    go_loopg [5] 10 (fun gg i wr => ∃ k : Nat, k ≤ pages.length ∧ k ≤ 10 ∧ gg = 10 - k ∧ i = .int .i64 k ∧ Below w3.heap.size w3 wr)
    case atStart => exact ⟨0, Nat.zero_le _, Nat.zero_le _, rfl, rfl, Below.refl _ _⟩
    case round =>
      obtain ⟨k, hk, hk12, hgk, rfl, hbw⟩ := hrel
      have HGK := Lib.hid hgk
      clear hgk
      have HXR := Lib.hid ((hbw.block _ hz3).trans HX.out)
      have HBW := Lib.hid hbw
      have hsw := hbw.size
      clear hbw
      have ef := fun j => frozen_of_row _ _ j _ _ HXR.out
      have e2 := cell_of_row _ _ 2 _ _ _ HXR.out
      have hxl := heap_lt HXR.out
      by_cases hlt : k < pages.length ∧ k < 10
      · obtain ⟨hlt, hlt12⟩ := hlt
        have hki : (k : Int) < pages.length := by omega
        have q12 : decide ((k : Int) < 10) = true := by simp; omega
        go_wp2_with fail
        clear e2 ef
        obtain ⟨wo, rfl⟩ : ∃ wo : World, wo = wr := ⟨_, rfl⟩
        go_loopg [6] 3 (fun gg j wr => ∃ s : Nat, s ≤ 3 ∧ gg = 3 - s ∧ j = .int .i64 s ∧ Below wo.heap.size wo wr)
        case atStart => exact ⟨0, by omega, rfl, rfl, Below.refl _ _⟩
        case round =>
          obtain ⟨s, hs3, hgs, rfl, hbv⟩ := hrel
          have HGS := Lib.hid hgs
          have HXV := Lib.hid ((hbv.block _ hxl).trans HXR.out)
          have HBV := Lib.hid hbv
          have hsv := hbv.size
          clear hgs hbv
          have HB3R := Lib.hid (show Below w3.heap.size w3 wr from (by repeat' (first | (with_reducible exact Below.refl _ _) | (with_reducible (refine Below.setCell ?_ ?_ _)) | (with_reducible (refine Below.alloc ?_ ?_ _)) | (with_reducible (refine Below.drew ?_)) | (with_reducible (refine below_via ?_ HBV.out ?_)) | (with_reducible (refine below_via ?_ HBW.out ?_)) | omega | (simp; done) | (simp; omega))))
          have HBR := Lib.hid (show Below w.heap.size w wr from (by repeat' (first | (with_reducible exact Below.refl _ _) | (with_reducible (refine Below.setCell ?_ ?_ _)) | (with_reducible (refine Below.alloc ?_ ?_ _)) | (with_reducible (refine Below.drew ?_)) | (with_reducible (refine below_via ?_ HBV.out ?_)) | (with_reducible (refine below_via ?_ HBW.out ?_)) | (with_reducible (refine below_via ?_ HB.out ?_)) | omega | (simp; done) | (simp; omega))))
          by_cases hs : s ≤ 2
          · have hsi : (s : Int) ≤ 2 := by omega
            obtain ⟨bp, op, rfl, hbp, hcp⟩ := at_cell HPA.out HBR.out hlt rfl
            obtain ⟨page, hpage⟩ : ∃ x, pages[k] = x := ⟨_, rfl⟩
            have hpi : -9223372036854775808 ≤ page ∧ page ≤ 9223372036854775807 := by
              have := HPO.out _ (List.getElem_mem hlt)
              rw [hpage] at this
              exact this
            rw [hpage] at hcp
            clear hpage
            have HCP := Lib.hid hcp
            have hsr := HBR.out.size
            have hbpr : bp < wr.heap.size := by omega
            have HWN := Lib.hid (fun W => within_b page 4096 W (by omega) (by omega) hpi)
            have hpg := within_lt page 4096 (by omega)
            generalize withinOf page 4096 = pg at *
            have hacc : accOk (s : Int) = true := by unfold accOk; simp; omega
            have hok : transOk ws.length ⟨on1, of1, ot1⟩ ⟨true, of2, ot2⟩ pg s = true := by
              rw [transOk_all, midOk_all, HMEM.out, H2F.out, HGF.out, hacc, num_mid (x := pg) (by omega) (by omega)]
              rfl
            have HWK := Lib.hid (fun W (hb : Below wr.heap.size wr W) => Trans_any ma mc ws ⟨on1, of1, ot1⟩ ⟨true, of2, ot2⟩ pg s W ((HM.out.below HBR.out).below hb))
            rw [show transEr ws.length ⟨on1, of1, ot1⟩ ⟨true, of2, ot2⟩ pg s = 0 by unfold transEr; rw [hok]; rfl] at HWK
            have hcf := transRes_conf (ws := ws) (two := ⟨true, of2, ot2⟩) rfl hok
            have HIN := Lib.hid (fun x hx => given_in Hhho.out (hcf.1 x hx))
            have HLT := Lib.hid hcf.2
            have HMI := Lib.hid (fun (mid : Int) (h : numOk mid 4095 = true) W (hb : Below wr.heap.size wr W) => by
              have hmok := midOk_of (n := ws.length) (two := ⟨true, of2, ot2⟩) (acc := (s : Int)) hacc HMEM.out H2F.out h
              have h := rMid_any ma mc ws ⟨true, of2, ot2⟩ mid s W ((HM.out.below HBR.out).below hb) hmok
              rw [← midRes_of hmok] at h
              exact h)
            clear hcf hok hacc hcp
            have hrl := transRes_len ws ⟨on1, of1, ot1⟩ ⟨true, of2, ot2⟩ pg s
            generalize transRes ws ⟨on1, of1, ot1⟩ ⟨true, of2, ot2⟩ pg s = res at *
            obtain ⟨⟨l0, l1, l2, l3, l4, l5, l6, l7, l8⟩, ⟨m0, m1, m2, m3, m4⟩, rd⟩ := res
            dsimp only at hrl
            unfold WPost at HWK HMI
            unfold Lets2 at HLT
            dsimp only [Ht.cells, Ft.cells, Rt.cells] at HWK HMI HLT HIN
            have x0 := fun j => cell_of_row _ _ j _ _ _ HXV.out
            have xf := fun j => frozen_of_row _ _ j _ _ HXV.out
            have hxv := heap_lt HXV.out
            have cp := HCP.out
           
            go_wp2_with fail
            refine wp_region_lex [77, 61, 80, 7, 8, 9] (GenC ((wr).heap.size) (wr) (quadPs (wr).heap.size (wr).heap.size #[.int .i64 l0, .int .i64 l1, .bool l2, .bool l3, .bool l4, .bool l5, .bool l6, .int .i64 l7, .int .i64 l8] #[.int .i64 m0, .int .i64 m1, .int .i64 m2, .bool m3, .int .i64 m4] [.int .i64 0] (rd) 77 61 80 7 8 9 15 16 19 21 22 23 24 25)) (genC_looks (by rfl)) (by kernel_rfl) (by kernel_rfl) (by kernel_rfl) (genC_start _ (start_quad)) ?_
            repeat (first
              | (refine wpLex_genMake 0 _ 77 [] (Nat.le_refl _) stays_quad rfl (by rfl) (by rfl) (by rfl) (by rfl) (by rfl) (by rfl) (by rfl) (by rfl) ?_ ?_
                 · intro u w' hb hk
                   have hsz := hb.size
                   try simp at hsz
                   have hcw := fun b o (h : b < (wr).heap.size) => hb.cell (p := ⟨b, o, none⟩) h
                   have hfw := fun b o (h : b < (wr).heap.size) => hb.frozen (p := ⟨b, o, none⟩) h
                   try simp only [putS, List.foldl, put_lit, List.set]
                   go_simp
                   (with_reducible refine Calls.mono (HWK.out _ (by repeat' (first | (with_reducible exact Below.refl _ _) | (with_reducible (refine Below.setCell ?_ ?_ _)) | (with_reducible (refine Below.alloc ?_ ?_ _)) | (with_reducible (refine Below.drew ?_)) | (with_reducible (refine below_via ?_ hb ?_)) | omega | (simp; done) | (simp; omega)))) ?_)
                   rintro e w2 ⟨R, c, rfl, h1, hb2⟩
                   exact ⟨_, rfl, makeOk ⟨_, rfl⟩ ⟨R, c, rfl, h1.mono (by first | exact Nat.le_refl _ | exact hsz | omega)⟩ hb2⟩
                 (conv => arg 9; simp only [put_lit, put_lit_none, List.set]))
              | (refine wpLex_genMake 1 _ 61 [0] (Nat.le_refl _) stays_quad rfl (by rfl) (by rfl) (by rfl) (by rfl) (by rfl) (by rfl) (by rfl) (by rfl) ?_ ?_
                 · intro u w' hb hk
                   have hsz := hb.size
                   try simp at hsz
                   have hcw := fun b o (h : b < (wr).heap.size) => hb.cell (p := ⟨b, o, none⟩) h
                   have hfw := fun b o (h : b < (wr).heap.size) => hb.frozen (p := ⟨b, o, none⟩) h
                   try simp only [putS, List.foldl, put_lit, List.set]
                   obtain ⟨R, c, e0, h1⟩ := (hk 0 (by simp) _ rfl).2
                   have e0' : u 77 = .tuple #[.agg #[.int .i64 l0, .int .i64 l1, .bool l2, .bool l3, .bool l4, .bool l5, .bool l6, .int .i64 l7, .int .i64 l8], .agg #[.int .i64 m0, .int .i64 m1, .int .i64 m2, .bool m3, .int .i64 m4], .slice R (rd).length c, .int .i64 0] := e0
                   rw [e0']
                   go_simp
                   exact makeOk ⟨_, rfl⟩ ⟨R, c, rfl, h1⟩ (Below.refl _ _)
                 (conv => arg 9; simp only [put_lit, put_lit_none, List.set]))
              | (refine wpLex_genMake 2 _ 80 [1] (Nat.le_refl _) stays_quad rfl (by rfl) (by rfl) (by rfl) (by rfl) (by rfl) (by rfl) (by rfl) (by rfl) ?_ ?_
                 · intro u w' hb hk
                   have hsz := hb.size
                   try simp at hsz
                   have hcw := fun b o (h : b < (wr).heap.size) => hb.cell (p := ⟨b, o, none⟩) h
                   have hfw := fun b o (h : b < (wr).heap.size) => hb.frozen (p := ⟨b, o, none⟩) h
                   try simp only [putS, List.foldl, put_lit, List.set]
                   obtain ⟨R, c, e0, h1⟩ := (hk 1 (by simp) _ rfl).2
                   have e0' : u 61 = .tuple #[.agg #[.int .i64 l0, .int .i64 l1, .bool l2, .bool l3, .bool l4, .bool l5, .bool l6, .int .i64 l7, .int .i64 l8], .agg #[.int .i64 m0, .int .i64 m1, .int .i64 m2, .bool m3, .int .i64 m4], .slice R (rd).length c, .int .i64 0] := e0
                   rw [e0']
                   go_simp
                   exact makeOk trivial ⟨R, c, rfl, h1⟩ (Below.refl _ _)
                 (conv => arg 9; simp only [put_lit, put_lit_none, List.set]))
              | (refine wpLex_genUseV [1] (Nat.le_refl _) stays_quad (by rfl) (by rfl) (by rfl) ?_
                 apply Exists.intro
                 refine ⟨?_, ?_⟩
                 · intro u w' hb hk
                   have hsz := hb.size
                   try simp at hsz
                   have hcw := fun b o (h : b < (wr).heap.size) => hb.cell (p := ⟨b, o, none⟩) h
                   have hfw := fun b o (h : b < (wr).heap.size) => hb.frozen (p := ⟨b, o, none⟩) h
                   try simp only [putS, List.foldl, put_lit, List.set]
                   obtain ⟨x, e0⟩ := hk 1 (by simp) _ rfl
                   have e0' : u 61 = .tuple #[.agg #[.int .i64 l0, .int .i64 l1, .bool l2, .bool l3, .bool l4, .bool l5, .bool l6, .int .i64 l7, .int .i64 l8], .agg #[.int .i64 m0, .int .i64 m1, .int .i64 m2, .bool m3, .int .i64 m4], x, .int .i64 0] := e0
                   rw [e0']
                   go_simp
                   exact ⟨rfl, Below.refl _ _⟩
                 (conv => arg 9; simp only [put_lit, put_lit_none, List.set]))
              | (refine wpLex_genMake 7 _ 9 [2] (Nat.le_refl _) stays_quad rfl (by rfl) (by rfl) (by rfl) (by rfl) (by rfl) (by rfl) (by rfl) (by rfl) ?_ ?_
                 · intro u w' hb hk
                   have hsz := hb.size
                   try simp at hsz
                   have hcw := fun b o (h : b < (wr).heap.size) => hb.cell (p := ⟨b, o, none⟩) h
                   have hfw := fun b o (h : b < (wr).heap.size) => hb.frozen (p := ⟨b, o, none⟩) h
                   try simp only [putS, List.foldl, put_lit, List.set]
                   obtain ⟨R, c, e0, h1⟩ := (hk 2 (by simp) _ rfl).2
                   have e0' : u 80 = .slice R (rd).length c := e0
                   rw [e0']
                   go_simp
                   exact makeOk trivial ⟨R, c, rfl, h1⟩ (Below.refl _ _)
                 (conv => arg 9; simp only [put_lit, put_lit_none, List.set]))
              | (refine wpLex_genMake 3 _ 7 [] (Nat.le_refl _) stays_quad rfl (by rfl) (by rfl) (by rfl) (by rfl) (by rfl) (by rfl) (by rfl) (by rfl) ?_ ?_
                 · intro u w' hb hk
                   have hsz := hb.size
                   try simp at hsz
                   have hcw := fun b o (h : b < (wr).heap.size) => hb.cell (p := ⟨b, o, none⟩) h
                   have hfw := fun b o (h : b < (wr).heap.size) => hb.frozen (p := ⟨b, o, none⟩) h
                   try simp only [putS, List.foldl, put_lit, List.set]
                   go_simp
                   exact makeOk trivial ⟨_, rfl, hsz, heap_new _ _⟩ ((Below.refl _ _).alloc (Nat.le_refl _) _)
                 (conv => arg 9; simp only [put_lit, put_lit_none, List.set]))
              | (refine wpLex_genMake 4 _ 8 [] (Nat.le_refl _) stays_quad rfl (by rfl) (by rfl) (by rfl) (by rfl) (by rfl) (by rfl) (by rfl) (by rfl) ?_ ?_
                 · intro u w' hb hk
                   have hsz := hb.size
                   try simp at hsz
                   have hcw := fun b o (h : b < (wr).heap.size) => hb.cell (p := ⟨b, o, none⟩) h
                   have hfw := fun b o (h : b < (wr).heap.size) => hb.frozen (p := ⟨b, o, none⟩) h
                   try simp only [putS, List.foldl, put_lit, List.set]
                   go_simp
                   exact makeOk trivial ⟨_, rfl, hsz, heap_new _ _⟩ ((Below.refl _ _).alloc (Nat.le_refl _) _)
                 (conv => arg 9; simp only [put_lit, put_lit_none, List.set]))
              | (refine wpLex_genStore hitT 5 _ [3] rfl (by rfl) (by rfl) (by rfl) (by rfl) (by rfl) (by rfl) stab_quad1 ?_ ?_
                 · intro u w' hb hk
                   have hsz := hb.size
                   try simp at hsz
                   have hcw := fun b o (h : b < (wr).heap.size) => hb.cell (p := ⟨b, o, none⟩) h
                   have hfw := fun b o (h : b < (wr).heap.size) => hb.frozen (p := ⟨b, o, none⟩) h
                   try simp only [putS, List.foldl, put_lit, List.set]
                   obtain ⟨g, e0, hg, hz⟩ := (hk 3 (by simp) _ rfl).2
                   have e0' : u 7 = _ := e0
                   rw [e0']
                   have hzc := fun j => cell_of_row _ _ j _ _ _ hz
                   have hzf := fun j => frozen_of_row _ _ j _ _ hz
                   simp only [zHit] at hzc
                   go_simp
                   exact storeOk trivial ⟨g, e0, hg, by simp [World.setCell, Array.getElem?_modify, hz, zHit]⟩ (by repeat' (first | (with_reducible exact hb) | (with_reducible (refine Below.setCell ?_ ?_ _)) | omega | (simp; done))) (by simp) g hz (fun x hx => by repeat (rw [heap_set_other (by exact hx)])))
              | (refine wpLex_genStore faultT 6 _ [4] rfl (by rfl) (by rfl) (by rfl) (by rfl) (by rfl) (by rfl) stab_quad2 ?_ ?_
                 · intro u w' hb hk
                   have hsz := hb.size
                   try simp at hsz
                   have hcw := fun b o (h : b < (wr).heap.size) => hb.cell (p := ⟨b, o, none⟩) h
                   have hfw := fun b o (h : b < (wr).heap.size) => hb.frozen (p := ⟨b, o, none⟩) h
                   try simp only [putS, List.foldl, put_lit, List.set]
                   obtain ⟨g, e0, hg, hz⟩ := (hk 4 (by simp) _ rfl).2
                   have e0' : u 8 = _ := e0
                   rw [e0']
                   have hzc := fun j => cell_of_row _ _ j _ _ _ hz
                   have hzf := fun j => frozen_of_row _ _ j _ _ hz
                   simp only [zFault] at hzc
                   go_simp
                   exact storeOk trivial ⟨g, e0, hg, by simp [World.setCell, Array.getElem?_modify, hz, zFault]⟩ (by repeat' (first | (with_reducible exact hb) | (with_reducible (refine Below.setCell ?_ ?_ _)) | omega | (simp; done))) (by simp) g hz (fun x hx => by repeat (rw [heap_set_other (by exact hx)])))
              | (refine wpLex_pass (by rfl) (passes_gen stays_quad (by rfl)) ?_; (conv => arg 9; simp only [put_lit, put_lit_none, List.set]))
              | (refine wpLex_genUse [] (Nat.le_refl _) stays_quad (by rfl) (by rfl) (by rfl) ?_
                 apply Exists.intro
                 refine ⟨?_, ?_⟩
                 · intro u w' hb _
                   have hsz := hb.size
                   try simp at hsz
                   have hcw := fun b o (h : b < (wr).heap.size) => hb.cell (p := ⟨b, o, none⟩) h
                   have hfw := fun b o (h : b < (wr).heap.size) => hb.frozen (p := ⟨b, o, none⟩) h
                   try simp only [putS, List.foldl, put_lit, List.set]
                   go_simp
                   first
                     | exact ⟨rfl, Below.refl _ _⟩
                     | exact Below.refl _ _
                     | exact rfl
                     | ((with_reducible refine Calls.mono (HWN.out _) ?_); rintro e w2 ⟨rfl, hb2⟩; first | exact ⟨_, rfl, rfl, hb2⟩ | exact ⟨rfl, hb2⟩)
                 (conv => arg 9; simp only [put_lit, put_lit_none, List.set])))
            refine wpLex_nil ?_
            intro wd bd dd hdd hCd hod
            obtain ⟨ud, rfl, hbd, hkd⟩ := genC_end hCd hdd hod
            clear hCd hod hdd dd
            simp only [putS, List.foldl, put_lit, List.set]
            have hsd := hbd.size
            try simp at hsd
            obtain ⟨hd, ehd, hghd, hxd⟩ := (hkd 5 _ rfl (by rfl) rfl).2
            obtain ⟨fd, efd, hgfd, hyd⟩ := (hkd 6 _ rfl (by rfl) rfl).2
            obtain ⟨Rd, cd, eld, hrd⟩ := (hkd 7 _ rfl (by rfl) rfl).2
            have ehd' : ud 7 = _ := ehd
            have efd' : ud 8 = _ := efd
            have eld' : ud 9 = _ := eld
            rw [ehd', efd', eld']
            clear hkd
            generalize ud 77 = xd77 at *
            generalize ud 61 = xd61 at *
            generalize ud 80 = xd80 at *
            clear ehd efd eld ehd' efd' eld' ud
            have hlhd := heap_lt hxd
            have hlfd := heap_lt hyd
            have HXd := Lib.hid hxd
            have HYd := Lib.hid hyd
            have HOd := Lib.hid hrd
            clear hxd hyd hrd
            have hcd := fun b o (h : b < (wr).heap.size) => hbd.cell (p := ⟨b, o, none⟩) h
            have hfd := fun b o (h : b < (wr).heap.size) => hbd.frozen (p := ⟨b, o, none⟩) h
            have HBd := Lib.hid hbd
            clear hbd
           
            clear x0 xf cp hcd hfd HWK HWN
            go_wp2_with (go_at_call 30; refine (HNU.out _ _).mono ?_; rintro e w' ⟨rfl, hww⟩; have hww2 := hww.symm; clear hww; subst hww2)
           
            obtain ⟨wp, rfl⟩ : ∃ wp : World, wp = wr := ⟨_, rfl⟩
            go_loopg [11] rd.length (fun gg v w9 => ∃ t : Nat, t ≤ rd.length ∧ gg = rd.length - t ∧ v = .int .i64 t ∧ Below wd.heap.size wd w9)
            case atStart => exact ⟨0, Nat.zero_le _, rfl, rfl, Below.refl _ _⟩
            case round =>
              obtain ⟨t, ht, hgt, rfl, hbt⟩ := hrel
              have HGT := Lib.hid hgt
              have HBT := Lib.hid hbt
              have hst := hbt.size
              clear hgt hbt
              by_cases htl2 : t < rd.length
              · have hti : (t : Int) < rd.length := by omega
                have HB3T := Lib.hid (show Below w3.heap.size w3 wr from (by repeat' (first | (with_reducible exact Below.refl _ _) | (with_reducible (refine Below.setCell ?_ ?_ _)) | (with_reducible (refine Below.alloc ?_ ?_ _)) | (with_reducible (refine Below.drew ?_)) | (with_reducible (refine below_via ?_ HBT.out ?_)) | (with_reducible (refine below_via ?_ HBd.out ?_)) | (with_reducible (refine below_via ?_ HB3R.out ?_)) | omega | (simp; done) | (simp; omega))))
                have HOT := Lib.hid (HOd.out.below HBT.out (Nat.le_refl _))
                obtain ⟨bl, ol, hbe, hbl, hcl⟩ := at_cell (HOT.out.at_ int_len) (Below.refl _ _) htl2 rfl
                subst hbe
                have hgin := HIN.out rd[t] (List.getElem_mem htl2)
                generalize rd[t] = x at *
                have HI1 := Lib.hid (In_any x T ct tabs wr (by omega) (HTA.out.below HB3T.out))
                have HI2 := Lib.hid (In_any x L cl lets wr (by omega) (HLA.out.below HB3T.out))
                have hi1 := idx_in tabs x
                have hi2 := idx_in lets x
                generalize idx (· == x) tabs = ix at *
                generalize idx (· == x) lets = iy at *
                rcases hi1 with ⟨hneg, hnin⟩ | ⟨hpos, _⟩
                · have hpos : 0 ≤ iy := by
                    rcases hi2 with ⟨_, h⟩ | ⟨h, _⟩
                    · rcases hgin with h2 | h2
                      · exact absurd h2 hnin
                      · exact absurd h2 h
                    · exact h
                  have q1 : decide (ix < 0) = true := by simpa using hneg
                  have q2 : decide (iy < 0) = false := by simp; omega
                  clear hi2 hgin hnin
                 
                  go_wp2_with fail
                  refine Calls.mono HI1.out ?_
                  rintro e w' ⟨rfl, rfl⟩
                  go_wp2_with fail
                  refine Calls.mono HI2.out ?_
                  rintro e w' ⟨rfl, rfl⟩
                  go_wp2_with fail
                  go_roundg (rd.length - (t + 1))
                  case rel => exact ⟨t + 1, by omega, rfl, by go_num, HBT.out⟩
                  case measure => have := HGT.out; omega
                · have q1 : decide (ix < 0) = false := by simp; omega
                  clear hi2 hgin
                 
                  go_wp2_with fail
                  refine Calls.mono HI1.out ?_
                  rintro e w' ⟨rfl, rfl⟩
                  go_wp2_with fail
                  go_roundg (rd.length - (t + 1))
                  case rel => exact ⟨t + 1, by omega, rfl, by go_num, HBT.out⟩
                  case measure => have := HGT.out; omega
              · have hti : ¬ (t : Int) < rd.length := by omega
                have BH := Lib.hid ((HBT.out.block _ (heap_lt HXd.out)).trans HXd.out)
                have BF := Lib.hid ((HBT.out.block _ (heap_lt HYd.out)).trans HYd.out)
                have BB := Lib.hid (below_via HBd.out HBT.out HBd.out.size)
                have HXB := Lib.hid ((BB.out.block _ hxv).trans HXV.out)
                have y7 := fun j => cell_of_row _ _ j _ _ _ BH.out
                have y8 := fun j => cell_of_row _ _ j _ _ _ BF.out
                have yf7 := fun j => frozen_of_row _ _ j _ _ BH.out
                have yf8 := fun j => frozen_of_row _ _ j _ _ BF.out
                have hl7 := heap_lt BH.out
                have hl8 := heap_lt BF.out
                have x0 := fun j => cell_of_row _ _ j _ _ _ HXB.out
                have xf := fun j => frozen_of_row _ _ j _ _ HXB.out
                have hxb := heap_lt HXB.out
                clear HXd HYd HOd HBd
                by_cases hm0 : m0 = 0
                · subst hm0
                  obtain ⟨hn1, hk1, hf1⟩ := HLT.out rfl
                  have HPG := Lib.hid (fun W => page_any l1 W)
                  rw [hn1] at HPG
                  have HM2 := Lib.hid (fun W hb => HMI.out l1 hn1 W hb)
                  generalize midRes ws ⟨true, of2, ot2⟩ l1 s = mr at *
                  obtain ⟨⟨p0, p1, p2, p3, p4, p5, p6, p7, p8⟩, ⟨q0, q1, q2, q3, q4⟩, rm⟩ := mr
                  obtain rfl : q0 = 0 := hk1
                  obtain rfl : p0 = l0 := hf1
                  dsimp only at HM2
                  clear hn1 HMI
                 
                  go_wp2_with (go_at_call 17; refine (HPG.out _).mono ?_; rintro e w' ⟨rfl, hww⟩; have hww2 := hww.symm; clear hww; subst hww2)
                 
                  refine Calls.mono (HM2.out _ BB.out) ?_
                  rintro e w4 ⟨R4, c4, rfl, ho4, hb4⟩
                  have hs4 := hb4.size
                  try simp at hs4
                  have HB4 := Lib.hid hb4
                  clear hb4
                  have Hho4 := Lib.hid ho4
                  clear ho4
                  have C7 := Lib.hid ((HB4.out.block _ hl7).trans BH.out)
                  have C9 := Lib.hid (below_via BB.out HB4.out BB.out.size)
                  have z7 := fun j => cell_of_row _ _ j _ _ _ C7.out
                  have zf7 := fun j => frozen_of_row _ _ j _ _ C7.out
                  have zl7 := heap_lt C7.out
                  clear y7 y8 yf7 yf8 x0 xf
                 
                  go_wp2_with fail
                  go_roundg (3 - (s + 1))
                  case rel => exact ⟨s + 1, by omega, rfl, by go_num, (by repeat' (first | (with_reducible exact Below.refl _ _) | (with_reducible (refine Below.setCell ?_ ?_ _)) | (with_reducible (refine Below.alloc ?_ ?_ _)) | (with_reducible (refine Below.drew ?_)) | (with_reducible (refine below_via ?_ HB4.out ?_)) | (with_reducible (refine below_via ?_ BB.out ?_)) | (with_reducible (refine below_via ?_ HBV.out ?_)) | omega | (simp; done) | (simp; omega)))⟩
                  case measure => have := HGS.out; omega
                · have qm : (m0 != 0) = true := by simpa using hm0
                 
                  go_wp2_with fail
                  go_roundg (3 - (s + 1))
                  case rel => exact ⟨s + 1, by omega, rfl, by go_num, below_via HBV.out BB.out HBV.out.size⟩
                  case measure => have := HGS.out; omega
          · have hsi : ¬ (s : Int) ≤ 2 := by omega
           
            go_wp2
            go_roundg (10 - (k + 1))
            case rel => exact ⟨k + 1, by omega, by omega, rfl, by go_num, (by repeat' (first | (with_reducible exact Below.refl _ _) | (with_reducible (refine Below.setCell ?_ ?_ _)) | (with_reducible (refine Below.alloc ?_ ?_ _)) | (with_reducible (refine Below.drew ?_)) | (with_reducible (refine below_via ?_ HBV.out ?_)) | (with_reducible (refine below_via ?_ HBW.out ?_)) | omega | (simp; done) | (simp; omega)))⟩
            case measure => have := HGK.out; omega
      ·
        by_cases hka : k < pages.length
        · obtain rfl : k = 10 := by omega
          have hki : (10 : Int) < pages.length := by omega
          go_wp2_with fail
          refine Calls.mono (HWA.out _) ?_
          rintro e w5 ⟨rfl, hb5⟩
          have hs5 := hb5.size
          try simp at hs5
          have HB5 := Lib.hid hb5
          clear hb5
          go_wp2
          go_ret
          exact ⟨rfl, (by repeat' (first | (with_reducible exact Below.refl _ _) | (with_reducible (refine Below.setCell ?_ ?_ _)) | (with_reducible (refine Below.alloc ?_ ?_ _)) | (with_reducible (refine Below.drew ?_)) | (with_reducible (refine below_via ?_ HB5.out ?_)) | (with_reducible (refine below_via ?_ HBW.out ?_)) | (with_reducible (refine below_via ?_ HB.out ?_)) | omega | (simp; done) | (simp; omega)))⟩
        · have hki : ¬ (k : Int) < pages.length := by omega
          go_wp2_with fail
          refine Calls.mono (HWA.out _) ?_
          rintro e w5 ⟨rfl, hb5⟩
          have hs5 := hb5.size
          try simp at hs5
          have HB5 := Lib.hid hb5
          clear hb5
          go_wp2
          go_ret
          exact ⟨rfl, (by repeat' (first | (with_reducible exact Below.refl _ _) | (with_reducible (refine Below.setCell ?_ ?_ _)) | (with_reducible (refine Below.alloc ?_ ?_ _)) | (with_reducible (refine Below.drew ?_)) | (with_reducible (refine below_via ?_ HB5.out ?_)) | (with_reducible (refine below_via ?_ HBW.out ?_)) | (with_reducible (refine below_via ?_ HB.out ?_)) | omega | (simp; done) | (simp; omega)))⟩
  ·
    cases b
    case true =>
      go_enter Try.func8, Try.ntmps8
      go_wp2_with fail
      refine Calls.mono (HHV.out _) ?_
      rintro e w1 ⟨rfl, hb1⟩
      have hs1 := hb1.size
      try simp at hs1
      have hc1_0 := fun o => (bcell hb1).1 (w.heap.size) o (by first | omega | (simp; done) | (simp; omega))
      have hf1_0 := fun o => (bcell hb1).2.1 (w.heap.size) o (by first | omega | (simp; done) | (simp; omega))
      have hz1_0 := (bcell hb1).2.2 (w.heap.size) (by first | omega | (simp; done) | (simp; omega))
      have HB1 := Lib.hid hb1
      clear hb1
      go_wp2
      go_ret
      exact ⟨rfl, (by repeat' (first | (with_reducible exact Below.refl _ _) | (with_reducible (refine Below.setCell ?_ ?_ _)) | (with_reducible (refine Below.alloc ?_ ?_ _)) | (with_reducible (refine Below.drew ?_)) | (with_reducible (refine below_via ?_ HB1.out ?_)) | omega | (simp; done) | (simp; omega)))⟩
    case false =>
      cases gm
      · go_enter Try.func8, Try.ntmps8
        go_wp2_with fail
        refine Calls.mono (HHV.out _) ?_
        rintro e w1 ⟨rfl, hb1⟩
        have hs1 := hb1.size
        try simp at hs1
        have hc1_0 := fun o => (bcell hb1).1 (w.heap.size) o (by first | omega | (simp; done) | (simp; omega))
        have hf1_0 := fun o => (bcell hb1).2.1 (w.heap.size) o (by first | omega | (simp; done) | (simp; omega))
        have hz1_0 := (bcell hb1).2.2 (w.heap.size) (by first | omega | (simp; done) | (simp; omega))
        have HB1 := Lib.hid hb1
        clear hb1
        go_wp2_with fail
        refine Calls.mono (HMY.out _) ?_
        rintro e w2 ⟨rfl, hb2⟩
        have hs2 := hb2.size
        try simp at hs2
        have hc2_0 := fun o => (bcell hb2).1 (w.heap.size) o (by first | omega | (simp; done) | (simp; omega))
        have hf2_0 := fun o => (bcell hb2).2.1 (w.heap.size) o (by first | omega | (simp; done) | (simp; omega))
        have hz2_0 := (bcell hb2).2.2 (w.heap.size) (by first | omega | (simp; done) | (simp; omega))
        have HB2 := Lib.hid hb2
        clear hb2
        go_wp2
        go_ret
        exact ⟨rfl, (by repeat' (first | (with_reducible exact Below.refl _ _) | (with_reducible (refine Below.setCell ?_ ?_ _)) | (with_reducible (refine Below.alloc ?_ ?_ _)) | (with_reducible (refine Below.drew ?_)) | (with_reducible (refine below_via ?_ HB2.out ?_)) | (with_reducible (refine below_via ?_ HB1.out ?_)) | omega | (simp; done) | (simp; omega)))⟩
      · cases gf
        · go_enter Try.func8, Try.ntmps8
          go_wp2_with fail
          refine Calls.mono (HHV.out _) ?_
          rintro e w1 ⟨rfl, hb1⟩
          have hs1 := hb1.size
          try simp at hs1
          have hc1_0 := fun o => (bcell hb1).1 (w.heap.size) o (by first | omega | (simp; done) | (simp; omega))
          have hf1_0 := fun o => (bcell hb1).2.1 (w.heap.size) o (by first | omega | (simp; done) | (simp; omega))
          have hz1_0 := (bcell hb1).2.2 (w.heap.size) (by first | omega | (simp; done) | (simp; omega))
          have HB1 := Lib.hid hb1
          clear hb1
          go_wp2_with fail
          refine Calls.mono (HMY.out _) ?_
          rintro e w2 ⟨rfl, hb2⟩
          have hs2 := hb2.size
          try simp at hs2
          have hc2_0 := fun o => (bcell hb2).1 (w.heap.size) o (by first | omega | (simp; done) | (simp; omega))
          have hf2_0 := fun o => (bcell hb2).2.1 (w.heap.size) o (by first | omega | (simp; done) | (simp; omega))
          have hz2_0 := (bcell hb2).2.2 (w.heap.size) (by first | omega | (simp; done) | (simp; omega))
          have HB2 := Lib.hid hb2
          clear hb2
          go_wp2_with (go_at_call 17; refine (HPF.out _).mono ?_; rintro e w' ⟨rfl, rfl⟩)
          go_ret
          exact ⟨rfl, (by repeat' (first | (with_reducible exact Below.refl _ _) | (with_reducible (refine Below.setCell ?_ ?_ _)) | (with_reducible (refine Below.alloc ?_ ?_ _)) | (with_reducible (refine Below.drew ?_)) | (with_reducible (refine below_via ?_ HB2.out ?_)) | (with_reducible (refine below_via ?_ HB1.out ?_)) | omega | (simp; done) | (simp; omega)))⟩
        · cases on2
          · go_enter Try.func8, Try.ntmps8
            go_wp2_with fail
            refine Calls.mono (HHV.out _) ?_
            rintro e w1 ⟨rfl, hb1⟩
            have hs1 := hb1.size
            try simp at hs1
            have hc1_0 := fun o => (bcell hb1).1 (w.heap.size) o (by first | omega | (simp; done) | (simp; omega))
            have hf1_0 := fun o => (bcell hb1).2.1 (w.heap.size) o (by first | omega | (simp; done) | (simp; omega))
            have hz1_0 := (bcell hb1).2.2 (w.heap.size) (by first | omega | (simp; done) | (simp; omega))
            have HB1 := Lib.hid hb1
            clear hb1
            go_wp2_with fail
            refine Calls.mono (HMY.out _) ?_
            rintro e w2 ⟨rfl, hb2⟩
            have hs2 := hb2.size
            try simp at hs2
            have hc2_0 := fun o => (bcell hb2).1 (w.heap.size) o (by first | omega | (simp; done) | (simp; omega))
            have hf2_0 := fun o => (bcell hb2).2.1 (w.heap.size) o (by first | omega | (simp; done) | (simp; omega))
            have hz2_0 := (bcell hb2).2.2 (w.heap.size) (by first | omega | (simp; done) | (simp; omega))
            have HB2 := Lib.hid hb2
            clear hb2
            go_wp2_with (go_at_call 17; refine (HPF.out _).mono ?_; rintro e w' ⟨rfl, rfl⟩)
            go_ret
            exact ⟨rfl, (by repeat' (first | (with_reducible exact Below.refl _ _) | (with_reducible (refine Below.setCell ?_ ?_ _)) | (with_reducible (refine Below.alloc ?_ ?_ _)) | (with_reducible (refine Below.drew ?_)) | (with_reducible (refine below_via ?_ HB2.out ?_)) | (with_reducible (refine below_via ?_ HB1.out ?_)) | omega | (simp; done) | (simp; omega)))⟩
          · exact absurd ⟨rfl, rfl, rfl, rfl⟩ hall

end Go.Proofs.Ytddbndmbcdeggaa
