/-
  'NestTrans' returns true, and of what was there nothing has turned. Conditions: the argument reads as such.
-/
import Derived.Test.YtddbndmbcdeggaaNsP
import Derived.Test.YtddbndmbcdeggaaNsK
namespace Go.Proofs.Ytddbndmbcdeggaa
open Go.RowKit

set_option maxRecDepth 100000 in
set_option maxHeartbeats 16000000 in
theorem nestTrans_walk (q : AskN) (w : World) (hq : AskWAt w q.a) :
    Calls Try.prog 7 #[.agg q.cells.toArray] w fun e w' => e = .returned (.bool true) ∧ Below w.heap.size w w' := by
  have HHV := Lib.hid (fun W => heavy5_any q.a W)
  obtain ⟨b, hb⟩ : ∃ b, heavyW q.a = b := ⟨_, rfl⟩
  rw [hb] at HHV
  have HLI := Lib.hid (fun (h : b = false) => heavyW_no (hb.trans h))
  have HME := Lib.hid (fun h => hq.me h)
  have HPA := Lib.hid hq.pat
  have HPO := Lib.hid hq.pok
  have HML := Lib.hid hq.mlen
  have HMY := Lib.hid (fun (page acc : Int) W => may7_any q page acc W (by have := HML.out; omega))
  clear hb hq
  obtain ⟨⟨ma, mc, ws, frame, pa, pc, pages⟩, ⟨on1, of1, ot1⟩, ⟨on2, of2, ot2⟩, ac⟩ := q
  dsimp only [AskN.cells, AskW.cells] at *
  have HWA := Lib.hid (fun W => wakes7_any W)
  have HNU := Lib.hid (fun (n : Int) W => num7_any n W)
  go_enter Try.func7, Try.ntmps7
  go_wp2_with fail
  refine Calls.mono (HHV.out _) ?_
  rintro e w1 ⟨rfl, hb1⟩
  have hs1 := hb1.size
  try simp at hs1
  have hc1_0 := fun o => (bcell hb1).1 (w.heap.size) o (by first | omega | (simp; done) | (simp; omega))
  have hf1_0 := fun o => (bcell hb1).2.1 (w.heap.size) o (by first | omega | (simp; done) | (simp; omega))
  have hz1_0 := (bcell hb1).2.2 (w.heap.size) (by first | omega | (simp; done) | (simp; omega))
  have HB1 := Lib.hid hb1
  clear hb1
  cases b
  case true =>
    go_wp2
    go_ret
    exact ⟨rfl, (by repeat' (first | (with_reducible exact Below.refl _ _) | (with_reducible (refine Below.setCell ?_ ?_ _)) | (with_reducible (refine Below.alloc ?_ ?_ _)) | (with_reducible (refine Below.drew ?_)) | (with_reducible (refine below_via ?_ HB1.out ?_)) | omega | (simp; done) | (simp; omega)))⟩
  case false =>
    obtain ⟨hw2, hp5⟩ := HLI.out rfl
    have HM := Lib.hid (HME.out hw2)
    clear HLI HME HML
    go_wp2_with fail
    have HX := Lib.hid (show w1.heap[w.heap.size]? = some (.cells #[.slice ma ws.length mc, .int .i64 frame, .slice pa pages.length pc, .bool on1, .int .i64 of1, .int .i64 ot1, .bool on2, .int .i64 of2, .int .i64 ot2, .int .i64 ac] 57 (0, 0)) from (by repeat (first | (with_reducible assumption) | (with_reducible refine heap_below_is HB1.out (by (first | omega | (simp; done) | (simp; omega))) ?_) | (exact heap_at _ _ (by simp; done)) | (with_reducible refine heap_old_is _ _ (by (first | omega | (simp; done) | (simp; omega))) ?_) | (with_reducible refine heap_far_is (by (first | omega | (simp; done) | (simp; omega))) ?_))))
    have HB := Lib.hid ((by repeat' (first | (with_reducible exact Below.refl _ _) | (with_reducible (refine Below.setCell ?_ ?_ _)) | (with_reducible (refine Below.alloc ?_ ?_ _)) | (with_reducible (refine Below.drew ?_)) | (with_reducible (refine below_via ?_ HB1.out ?_)) | omega | (simp; done) | (simp; omega))) : Below w.heap.size w w1)
    clear hc1_0 hf1_0
    go_loopg [3] 10 (fun gg i wr => ∃ k : Nat, k ≤ pages.length ∧ k ≤ 10 ∧ gg = 10 - k ∧ i = .int .i64 k ∧ Below w1.heap.size w1 wr)
    case atStart => exact ⟨0, Nat.zero_le _, Nat.zero_le _, rfl, rfl, Below.refl _ _⟩
    case round =>
      obtain ⟨k, hk, hk12, hgk, rfl, hbw⟩ := hrel
      have HGK := Lib.hid hgk
      clear hgk
      have HXR := Lib.hid ((hbw.block _ hz1_0).trans HX.out)
      have HBW := Lib.hid hbw
      have hsw := hbw.size
      clear hbw
      have ef := fun j => frozen_of_row _ _ j _ _ HXR.out
      have e2 := cell_of_row _ _ 2 _ _ _ HXR.out
      have hxl := heap_lt HXR.out
      by_cases hlt : k < pages.length ∧ k < 10
      · obtain ⟨hlt, hlt12⟩ := hlt
        have hki : (k : Int) < pages.length := by omega
        have q12 : decide ((k : Int) < 10) = true := by simp; omega
        go_wp2_with fail
        clear e2 ef
        obtain ⟨wo, rfl⟩ : ∃ wo : World, wo = wr := ⟨_, rfl⟩
        go_loopg [4] 5 (fun gg j wr => ∃ s : Int, -1 ≤ s ∧ s ≤ 4 ∧ gg = (4 - s).toNat ∧ j = .int .i64 s ∧ Below wo.heap.size wo wr)
        case atStart => exact ⟨-1, by omega, by omega, rfl, rfl, Below.refl _ _⟩
        case round =>
          obtain ⟨s, hs0, hs4, hgs, rfl, hbv⟩ := hrel
          have HGS := Lib.hid hgs
          have HXV := Lib.hid ((hbv.block _ hxl).trans HXR.out)
          have HBV := Lib.hid hbv
          have hsv := hbv.size
          clear hgs hbv
          have HBR := Lib.hid (show Below w.heap.size w wr from (by repeat' (first | (with_reducible exact Below.refl _ _) | (with_reducible (refine Below.setCell ?_ ?_ _)) | (with_reducible (refine Below.alloc ?_ ?_ _)) | (with_reducible (refine Below.drew ?_)) | (with_reducible (refine below_via ?_ HBV.out ?_)) | (with_reducible (refine below_via ?_ HBW.out ?_)) | (with_reducible (refine below_via ?_ HB.out ?_)) | omega | (simp; done) | (simp; omega))))
          by_cases hs : s ≤ 3
          · have hsn : IntKind.i64.wrap (s + 1) = s + 1 := IntWalk.i64_in _ (by omega)
            go_wp2_with fail
            obtain ⟨wp, rfl⟩ : ∃ wp : World, wp = wr := ⟨_, rfl⟩
            have hxp := heap_lt HXV.out
            go_loopg [5] 2 (fun gg j wr => ∃ t : Nat, t ≤ 2 ∧ gg = 2 - t ∧ j = .int .i64 t ∧ Below wp.heap.size wp wr)
            case atStart => exact ⟨0, by omega, rfl, rfl, Below.refl _ _⟩
            case round =>
              obtain ⟨t, ht2, hgt, rfl, hbt⟩ := hrel
              have HGT := Lib.hid hgt
              have HXT := Lib.hid ((hbt.block _ hxp).trans HXV.out)
              have HBT := Lib.hid hbt
              have hst := hbt.size
              clear hgt hbt
              have HBQ := Lib.hid (show Below w.heap.size w wr from (by repeat' (first | (with_reducible exact Below.refl _ _) | (with_reducible (refine Below.setCell ?_ ?_ _)) | (with_reducible (refine Below.alloc ?_ ?_ _)) | (with_reducible (refine Below.drew ?_)) | (with_reducible (refine below_via ?_ HBT.out ?_)) | (with_reducible (refine below_via ?_ HBR.out ?_)) | omega | (simp; done) | (simp; omega))))
              by_cases ht : t < 2
              · have hti : (t : Int) < 2 := by omega
                obtain ⟨o, ho⟩ : ∃ o : Bool, ((t : Int) == 1) = o := ⟨_, rfl⟩
                have x0 := fun j => cell_of_row _ _ j _ _ _ HXT.out
                have xf := fun j => frozen_of_row _ _ j _ _ HXT.out
                have hxt := heap_lt HXT.out
                go_upto_region 14 with fail
                refine name_world ?_
                intro wq hwq
                have Q6 := Lib.hid (show wq.heap[wr.heap.size]? = some (.cells #[.bool o, .int .i64 of1, .int .i64 ot1] rootT (0, 0)) by rw [hwq]; exact heap_new _ _)
                have QB := Lib.hid (show Below wr.heap.size wr wq by rw [hwq]; repeat' (first | (with_reducible exact Below.refl _ _) | (with_reducible (refine Below.setCell ?_ ?_ _)) | (with_reducible (refine Below.alloc ?_ ?_ _)) | (with_reducible (refine Below.drew ?_)) | omega | (simp; done) | (simp; omega)))
                have hqs : wr.heap.size + 1 ≤ wq.heap.size := by rw [hwq]; simp
                clear hwq ho x0 xf
               
                have HXQ := Lib.hid ((QB.out.block _ hxt).trans HXT.out)
                have HBR := Lib.hid (show Below w.heap.size w wq from (by repeat' (first | (with_reducible exact Below.refl _ _) | (with_reducible (refine Below.setCell ?_ ?_ _)) | (with_reducible (refine Below.alloc ?_ ?_ _)) | (with_reducible (refine Below.drew ?_)) | (with_reducible (refine below_via ?_ QB.out ?_)) | (with_reducible (refine below_via ?_ HBQ.out ?_)) | omega | (simp; done) | (simp; omega))))
                obtain ⟨bp, op, rfl, hbp, hcp⟩ := at_cell HPA.out HBR.out hlt rfl
                obtain ⟨page, hpage⟩ : ∃ x, pages[k] = x := ⟨_, rfl⟩
                rw [hpage] at hcp
                clear hpage
                have HCP := Lib.hid hcp
                have hsr := HBR.out.size
                have hbpr : bp < wq.heap.size := by omega
                have HWK := Lib.hid (fun W (hb : Below wq.heap.size wq W) => Trans_any ma mc ws ⟨o, of1, ot1⟩ ⟨on2, of2, ot2⟩ page s W ((HM.out.below HBR.out).below hb))
                have HMA := Lib.hid (fun W => HMY.out page s W)
                have HPF := Lib.hid (fun W => page_any of1 W)
                obtain ⟨okm, hokm⟩ : ∃ b, midOk ws.length ⟨on2, of2, ot2⟩ page s = b := ⟨_, rfl⟩
                obtain ⟨okf, hokf⟩ : ∃ b, numOk of1 4095 = b := ⟨_, rfl⟩
                obtain ⟨ok, hok⟩ : ∃ b, transOk ws.length ⟨o, of1, ot1⟩ ⟨on2, of2, ot2⟩ page s = b := ⟨_, rfl⟩
                have HOK := Lib.hid (show (okm && okf) = ok by rw [← hok, transOk_all, hokm, hokf])
                have HRW := Lib.hid (fun (h : ok = true) W (hb : Below wq.heap.size wq W) => rTrans_any ma mc ws ⟨o, of1, ot1⟩ ⟨on2, of2, ot2⟩ page s W ((HM.out.below HBR.out).below hb) (hok.trans h))
                have HRN := Lib.hid (show ok = false → transRes ws ⟨o, of1, ot1⟩ ⟨on2, of2, ot2⟩ page s = (noHt, noFt, []) from fun h => by unfold transRes; rw [hok, h]; rfl)
                have HER := Lib.hid (show transEr ws.length ⟨o, of1, ot1⟩ ⟨on2, of2, ot2⟩ page s = if ok then 0 else 1 by unfold transEr; rw [hok])
                rw [hokm] at HMA
                rw [hokf] at HPF
                clear hok hokm hokf hcp
                have hrl := transRes_len ws ⟨o, of1, ot1⟩ ⟨on2, of2, ot2⟩ page s
                rw [HER.out] at HWK
                generalize transRes ws ⟨o, of1, ot1⟩ ⟨on2, of2, ot2⟩ page s = res at *
                obtain ⟨⟨l0, l1, l2, l3, l4, l5, l6, l7, l8⟩, ⟨m0, m1, m2, m3, m4⟩, rd⟩ := res
                unfold WPost at HWK HRW
                dsimp only [Ht.cells, Ft.cells, Rt.cells] at HWK HRW hrl
                obtain ⟨er, her⟩ : ∃ x : Int, (if ok = true then 0 else 1) = x := ⟨_, rfl⟩
                rw [her] at HWK
                have HER2 := Lib.hid her
                clear her HER
                have x0 := fun j => cell_of_row _ _ j _ _ _ HXQ.out
                have xf := fun j => frozen_of_row _ _ j _ _ HXQ.out
                have hxv := heap_lt HXQ.out
                have cp := HCP.out
                have x6 := fun j => cell_of_row _ _ j _ _ _ Q6.out
                have xf6 := fun j => frozen_of_row _ _ j _ _ Q6.out
                have h6l := heap_lt Q6.out
                go_wp2_with fail
               
                refine wp_region_lex [57, 43, 60, 7, 8, 9] (GenC ((wq).heap.size) (wq) (quadPs (wq).heap.size (wq).heap.size #[.int .i64 l0, .int .i64 l1, .bool l2, .bool l3, .bool l4, .bool l5, .bool l6, .int .i64 l7, .int .i64 l8] #[.int .i64 m0, .int .i64 m1, .int .i64 m2, .bool m3, .int .i64 m4] [.int .i64 er] (rd) 57 43 60 7 8 9 13 14 17 19 20 21 22 23)) (genC_looks (by rfl)) (by kernel_rfl) (by kernel_rfl) (by kernel_rfl) (genC_start _ (start_quad)) ?_
                repeat (first
                  | (refine wpLex_genMake 0 _ 57 [] (Nat.le_refl _) stays_quad rfl (by rfl) (by rfl) (by rfl) (by rfl) (by rfl) (by rfl) (by rfl) (by rfl) ?_ ?_
                     · intro u w' hb hk
                       have hsz := hb.size
                       try simp at hsz
                       have hcw := fun b o (h : b < (wq).heap.size) => hb.cell (p := ⟨b, o, none⟩) h
                       have hfw := fun b o (h : b < (wq).heap.size) => hb.frozen (p := ⟨b, o, none⟩) h
                       try simp only [putS, List.foldl, put_lit, List.set]
                       go_simp
                       (with_reducible refine Calls.mono (HWK.out _ (by repeat' (first | (with_reducible exact Below.refl _ _) | (with_reducible (refine Below.setCell ?_ ?_ _)) | (with_reducible (refine Below.alloc ?_ ?_ _)) | (with_reducible (refine Below.drew ?_)) | (with_reducible (refine below_via ?_ hb ?_)) | omega | (simp; done) | (simp; omega)))) ?_)
                       rintro e w2 ⟨R, c, rfl, h1, hb2⟩
                       exact ⟨_, rfl, makeOk ⟨_, rfl⟩ ⟨R, c, rfl, h1.mono (by first | exact Nat.le_refl _ | exact hsz | omega)⟩ hb2⟩
                     (conv => arg 9; simp only [put_lit, put_lit_none, List.set]))
                  | (refine wpLex_genMake 1 _ 43 [0] (Nat.le_refl _) stays_quad rfl (by rfl) (by rfl) (by rfl) (by rfl) (by rfl) (by rfl) (by rfl) (by rfl) ?_ ?_
                     · intro u w' hb hk
                       have hsz := hb.size
                       try simp at hsz
                       have hcw := fun b o (h : b < (wq).heap.size) => hb.cell (p := ⟨b, o, none⟩) h
                       have hfw := fun b o (h : b < (wq).heap.size) => hb.frozen (p := ⟨b, o, none⟩) h
                       try simp only [putS, List.foldl, put_lit, List.set]
                       obtain ⟨R, c, e0, h1⟩ := (hk 0 (by simp) _ rfl).2
                       have e0' : u 57 = .tuple #[.agg #[.int .i64 l0, .int .i64 l1, .bool l2, .bool l3, .bool l4, .bool l5, .bool l6, .int .i64 l7, .int .i64 l8], .agg #[.int .i64 m0, .int .i64 m1, .int .i64 m2, .bool m3, .int .i64 m4], .slice R (rd).length c, .int .i64 er] := e0
                       rw [e0']
                       go_simp
                       exact makeOk ⟨_, rfl⟩ ⟨R, c, rfl, h1⟩ (Below.refl _ _)
                     (conv => arg 9; simp only [put_lit, put_lit_none, List.set]))
                  | (refine wpLex_genMake 2 _ 60 [1] (Nat.le_refl _) stays_quad rfl (by rfl) (by rfl) (by rfl) (by rfl) (by rfl) (by rfl) (by rfl) (by rfl) ?_ ?_
                     · intro u w' hb hk
                       have hsz := hb.size
                       try simp at hsz
                       have hcw := fun b o (h : b < (wq).heap.size) => hb.cell (p := ⟨b, o, none⟩) h
                       have hfw := fun b o (h : b < (wq).heap.size) => hb.frozen (p := ⟨b, o, none⟩) h
                       try simp only [putS, List.foldl, put_lit, List.set]
                       obtain ⟨R, c, e0, h1⟩ := (hk 1 (by simp) _ rfl).2
                       have e0' : u 43 = .tuple #[.agg #[.int .i64 l0, .int .i64 l1, .bool l2, .bool l3, .bool l4, .bool l5, .bool l6, .int .i64 l7, .int .i64 l8], .agg #[.int .i64 m0, .int .i64 m1, .int .i64 m2, .bool m3, .int .i64 m4], .slice R (rd).length c, .int .i64 er] := e0
                       rw [e0']
                       go_simp
                       exact makeOk trivial ⟨R, c, rfl, h1⟩ (Below.refl _ _)
                     (conv => arg 9; simp only [put_lit, put_lit_none, List.set]))
                  | (refine wpLex_genUseV [1] (Nat.le_refl _) stays_quad (by rfl) (by rfl) (by rfl) ?_
                     apply Exists.intro
                     refine ⟨?_, ?_⟩
                     · intro u w' hb hk
                       have hsz := hb.size
                       try simp at hsz
                       have hcw := fun b o (h : b < (wq).heap.size) => hb.cell (p := ⟨b, o, none⟩) h
                       have hfw := fun b o (h : b < (wq).heap.size) => hb.frozen (p := ⟨b, o, none⟩) h
                       try simp only [putS, List.foldl, put_lit, List.set]
                       obtain ⟨x, e0⟩ := hk 1 (by simp) _ rfl
                       have e0' : u 43 = .tuple #[.agg #[.int .i64 l0, .int .i64 l1, .bool l2, .bool l3, .bool l4, .bool l5, .bool l6, .int .i64 l7, .int .i64 l8], .agg #[.int .i64 m0, .int .i64 m1, .int .i64 m2, .bool m3, .int .i64 m4], x, .int .i64 er] := e0
                       rw [e0']
                       go_simp
                       exact ⟨rfl, Below.refl _ _⟩
                     (conv => arg 9; simp only [put_lit, put_lit_none, List.set]))
                  | (refine wpLex_genMake 7 _ 9 [2] (Nat.le_refl _) stays_quad rfl (by rfl) (by rfl) (by rfl) (by rfl) (by rfl) (by rfl) (by rfl) (by rfl) ?_ ?_
                     · intro u w' hb hk
                       have hsz := hb.size
                       try simp at hsz
                       have hcw := fun b o (h : b < (wq).heap.size) => hb.cell (p := ⟨b, o, none⟩) h
                       have hfw := fun b o (h : b < (wq).heap.size) => hb.frozen (p := ⟨b, o, none⟩) h
                       try simp only [putS, List.foldl, put_lit, List.set]
                       obtain ⟨R, c, e0, h1⟩ := (hk 2 (by simp) _ rfl).2
                       have e0' : u 60 = .slice R (rd).length c := e0
                       rw [e0']
                       go_simp
                       exact makeOk trivial ⟨R, c, rfl, h1⟩ (Below.refl _ _)
                     (conv => arg 9; simp only [put_lit, put_lit_none, List.set]))
                  | (refine wpLex_genMake 3 _ 7 [] (Nat.le_refl _) stays_quad rfl (by rfl) (by rfl) (by rfl) (by rfl) (by rfl) (by rfl) (by rfl) (by rfl) ?_ ?_
                     · intro u w' hb hk
                       have hsz := hb.size
                       try simp at hsz
                       have hcw := fun b o (h : b < (wq).heap.size) => hb.cell (p := ⟨b, o, none⟩) h
                       have hfw := fun b o (h : b < (wq).heap.size) => hb.frozen (p := ⟨b, o, none⟩) h
                       try simp only [putS, List.foldl, put_lit, List.set]
                       go_simp
                       exact makeOk trivial ⟨_, rfl, hsz, heap_new _ _⟩ ((Below.refl _ _).alloc (Nat.le_refl _) _)
                     (conv => arg 9; simp only [put_lit, put_lit_none, List.set]))
                  | (refine wpLex_genMake 4 _ 8 [] (Nat.le_refl _) stays_quad rfl (by rfl) (by rfl) (by rfl) (by rfl) (by rfl) (by rfl) (by rfl) (by rfl) ?_ ?_
                     · intro u w' hb hk
                       have hsz := hb.size
                       try simp at hsz
                       have hcw := fun b o (h : b < (wq).heap.size) => hb.cell (p := ⟨b, o, none⟩) h
                       have hfw := fun b o (h : b < (wq).heap.size) => hb.frozen (p := ⟨b, o, none⟩) h
                       try simp only [putS, List.foldl, put_lit, List.set]
                       go_simp
                       exact makeOk trivial ⟨_, rfl, hsz, heap_new _ _⟩ ((Below.refl _ _).alloc (Nat.le_refl _) _)
                     (conv => arg 9; simp only [put_lit, put_lit_none, List.set]))
                  | (refine wpLex_genStore hitT 5 _ [3] rfl (by rfl) (by rfl) (by rfl) (by rfl) (by rfl) (by rfl) stab_quad1 ?_ ?_
                     · intro u w' hb hk
                       have hsz := hb.size
                       try simp at hsz
                       have hcw := fun b o (h : b < (wq).heap.size) => hb.cell (p := ⟨b, o, none⟩) h
                       have hfw := fun b o (h : b < (wq).heap.size) => hb.frozen (p := ⟨b, o, none⟩) h
                       try simp only [putS, List.foldl, put_lit, List.set]
                       obtain ⟨g, e0, hg, hz⟩ := (hk 3 (by simp) _ rfl).2
                       have e0' : u 7 = _ := e0
                       rw [e0']
                       have hzc := fun j => cell_of_row _ _ j _ _ _ hz
                       have hzf := fun j => frozen_of_row _ _ j _ _ hz
                       simp only [zHit] at hzc
                       go_simp
                       exact storeOk trivial ⟨g, e0, hg, by simp [World.setCell, Array.getElem?_modify, hz, zHit]⟩ (by repeat' (first | (with_reducible exact hb) | (with_reducible (refine Below.setCell ?_ ?_ _)) | omega | (simp; done))) (by simp) g hz (fun x hx => by repeat (rw [heap_set_other (by exact hx)])))
                  | (refine wpLex_genStore faultT 6 _ [4] rfl (by rfl) (by rfl) (by rfl) (by rfl) (by rfl) (by rfl) stab_quad2 ?_ ?_
                     · intro u w' hb hk
                       have hsz := hb.size
                       try simp at hsz
                       have hcw := fun b o (h : b < (wq).heap.size) => hb.cell (p := ⟨b, o, none⟩) h
                       have hfw := fun b o (h : b < (wq).heap.size) => hb.frozen (p := ⟨b, o, none⟩) h
                       try simp only [putS, List.foldl, put_lit, List.set]
                       obtain ⟨g, e0, hg, hz⟩ := (hk 4 (by simp) _ rfl).2
                       have e0' : u 8 = _ := e0
                       rw [e0']
                       have hzc := fun j => cell_of_row _ _ j _ _ _ hz
                       have hzf := fun j => frozen_of_row _ _ j _ _ hz
                       simp only [zFault] at hzc
                       go_simp
                       exact storeOk trivial ⟨g, e0, hg, by simp [World.setCell, Array.getElem?_modify, hz, zFault]⟩ (by repeat' (first | (with_reducible exact hb) | (with_reducible (refine Below.setCell ?_ ?_ _)) | omega | (simp; done))) (by simp) g hz (fun x hx => by repeat (rw [heap_set_other (by exact hx)])))
                  | (refine wpLex_pass (by rfl) (passes_gen stays_quad (by rfl)) ?_; (conv => arg 9; simp only [put_lit, put_lit_none, List.set]))
                  | (refine wpLex_genUse [] (Nat.le_refl _) stays_quad (by rfl) (by rfl) (by rfl) ?_
                     apply Exists.intro
                     refine ⟨?_, ?_⟩
                     · intro u w' hb _
                       have hsz := hb.size
                       try simp at hsz
                       have hcw := fun b o (h : b < (wq).heap.size) => hb.cell (p := ⟨b, o, none⟩) h
                       have hfw := fun b o (h : b < (wq).heap.size) => hb.frozen (p := ⟨b, o, none⟩) h
                       try simp only [putS, List.foldl, put_lit, List.set]
                       go_simp
                       first
                         | exact ⟨rfl, Below.refl _ _⟩
                         | exact Below.refl _ _
                         | exact rfl
                     (conv => arg 9; simp only [put_lit, put_lit_none, List.set])))
                refine wpLex_nil ?_
                intro wd bd dd hdd hCd hod
                obtain ⟨ud, rfl, hbd, hkd⟩ := genC_end hCd hdd hod
                clear hCd hod hdd dd
                simp only [putS, List.foldl, put_lit, List.set]
                have hsd := hbd.size
                try simp at hsd
                obtain ⟨hd, ehd, hghd, hxd⟩ := (hkd 5 _ rfl (by rfl) rfl).2
                obtain ⟨fd, efd, hgfd, hyd⟩ := (hkd 6 _ rfl (by rfl) rfl).2
                obtain ⟨Rd, cd, eld, hrd⟩ := (hkd 7 _ rfl (by rfl) rfl).2
                have ehd' : ud 7 = _ := ehd
                have efd' : ud 8 = _ := efd
                have eld' : ud 9 = _ := eld
                rw [ehd', efd', eld']
                clear hkd
                generalize ud 57 = xd57 at *
                generalize ud 43 = xd43 at *
                generalize ud 60 = xd60 at *
                clear ehd efd eld ehd' efd' eld' ud
                have hlhd := heap_lt hxd
                have hlfd := heap_lt hyd
                have HXd := Lib.hid hxd
                have HYd := Lib.hid hyd
                have HOd := Lib.hid hrd
                clear hxd hyd hrd
                have hcd := fun b o (h : b < (wq).heap.size) => hbd.cell (p := ⟨b, o, none⟩) h
                have hfd := fun b o (h : b < (wq).heap.size) => hbd.frozen (p := ⟨b, o, none⟩) h
                have HBd := Lib.hid hbd
                clear hbd
               
                have HRB := Lib.hid (fun p (hp : Rd = some p) => (HOd.out.block_ hp).2)
                clear x0 xf cp x6 xf6 hcd hfd HWK
                go_upto_region 19 with fail
                refine name_world ?_
                intro wa hwa
                have A10 := Lib.hid (show wa.heap[wd.heap.size]? = some (.cells zHit hitT (0, 0)) by rw [hwa]; exact (by repeat (first | (with_reducible assumption) | (exact heap_at _ _ (by simp; done)) | (with_reducible refine heap_old_is _ _ (by (first | omega | (simp; done) | (simp; omega))) ?_) | (with_reducible refine heap_far_is (by (first | omega | (simp; done) | (simp; omega))) ?_))))
                have A11 := Lib.hid (show wa.heap[wd.heap.size + 1]? = some (.cells zFault faultT (0, 0)) by rw [hwa]; exact (by repeat (first | (with_reducible assumption) | (exact heap_at _ _ (by simp; done)) | (with_reducible refine heap_old_is _ _ (by (first | omega | (simp; done) | (simp; omega))) ?_) | (with_reducible refine heap_far_is (by (first | omega | (simp; done) | (simp; omega))) ?_))))
                have AH := Lib.hid (show wa.heap[hd]? = some (.cells #[.int .i64 l0, .int .i64 l1, .bool l2, .bool l3, .bool l4, .bool l5, .bool l6, .int .i64 l7, .int .i64 l8] hitT (0, 0)) by rw [hwa]; exact (by repeat (first | (with_reducible assumption) | (with_reducible exact HXd.out) | (exact heap_at _ _ (by simp; done)) | (with_reducible refine heap_old_is _ _ (by (first | omega | (simp; done) | (simp; omega))) ?_) | (with_reducible refine heap_far_is (by (first | omega | (simp; done) | (simp; omega))) ?_))))
                have AF := Lib.hid (show wa.heap[fd]? = some (.cells #[.int .i64 m0, .int .i64 m1, .int .i64 m2, .bool m3, .int .i64 m4] faultT (0, 0)) by rw [hwa]; exact (by repeat (first | (with_reducible assumption) | (with_reducible exact HYd.out) | (exact heap_at _ _ (by simp; done)) | (with_reducible refine heap_old_is _ _ (by (first | omega | (simp; done) | (simp; omega))) ?_) | (with_reducible refine heap_far_is (by (first | omega | (simp; done) | (simp; omega))) ?_))))
                have AO := Lib.hid (show Own wa wq.heap.size intT 1 intCells rd Rd cd by rw [hwa]; exact (by repeat (first | (with_reducible exact Own.mono HOd.out (by (first | omega | (simp; done) | (simp; omega)))) | (with_reducible refine Own.set_far ?_ (by (first | omega | (simp; done) | (simp; omega))) _) | (with_reducible refine Own.alloc ?_ _) | (with_reducible refine Own.drew ?_))))
                have AB := Lib.hid (show Below wq.heap.size wq wa by rw [hwa]; repeat' (first | (with_reducible exact Below.refl _ _) | (with_reducible (refine Below.setCell ?_ ?_ _)) | (with_reducible (refine Below.alloc ?_ ?_ _)) | (with_reducible (refine Below.drew ?_)) | (with_reducible (refine below_via ?_ HBd.out ?_)) | omega | (simp; done) | (simp; omega)))
                have has : wd.heap.size + 2 ≤ wa.heap.size := by rw [hwa]; simp
                clear hwa HXd HYd HOd
                have HXA := Lib.hid ((AB.out.block _ hxv).trans HXQ.out)
                have hcpa := (AB.out.cell (p := ⟨bp, op + k, none⟩) hbpr).trans HCP.out
                have HCPA := Lib.hid hcpa
                have x0 := fun j => cell_of_row _ _ j _ _ _ HXA.out
                have xf := fun j => frozen_of_row _ _ j _ _ HXA.out
                have hxa := heap_lt HXA.out
                have A6 := Lib.hid ((AB.out.block _ h6l).trans Q6.out)
                have x6 := fun j => cell_of_row _ _ j _ _ _ A6.out
                have xf6 := fun j => frozen_of_row _ _ j _ _ A6.out
                have h6a := heap_lt A6.out
                have hbpa : bp < wa.heap.size := by omega
               
                go_cut [75] from 75 to 75 (fun v W => v = .bool ok ∧ Below wa.heap.size wa W)
                case first =>
                  cases okm
                  · obtain rfl : ok = false := by rw [← HOK.out]; rfl
                    refine wp_region_class (fun w' => Below (wa.heap.size) (wa) w') (by kernel_rfl) (by kernel_rfl) (Below.refl _ _).drew ?_
                    repeat (first
                      | (refine wpLex_pass (by rfl) passes_plain ?_; (conv => arg 9; simp only [put_lit, put_lit_none, List.set]))
                      | (refine wpLex_plain (by rfl) ?_
                         apply Exists.intro
                         refine ⟨?_, ?_⟩
                         · intro w' hb
                           have hsz := hb.size
                           try simp at hsz
                           have hcw := fun b o (h : b < wa.heap.size) => hb.cell (p := ⟨b, o, none⟩) h
                           have hfw := fun b o (h : b < wa.heap.size) => hb.frozen (p := ⟨b, o, none⟩) h
                           go_simp
                           first
                             | exact ⟨rfl, hb⟩
                             | exact rfl
                             | ((with_reducible refine Calls.mono (HMA.out _) ?_); rintro e w2 ⟨rfl, hb2⟩; exact ⟨_, rfl, rfl, hb.trans (hb2.mono hsz)⟩)
                         conv => arg 9; simp only [put_lit, put_lit_none, List.set]))
                    refine wpLex_nil ?_
                    intro wg hbg
                    have hsg := hbg.size
                    try simp at hsg
                    have hcg := fun b o (h : b < wa.heap.size) => hbg.cell (p := ⟨b, o, none⟩) h
                    have hfg := fun b o (h : b < wa.heap.size) => hbg.frozen (p := ⟨b, o, none⟩) h
                    have HBg := Lib.hid hbg
                    clear hbg
                    go_wp2_with fail
                    go_meet
                    case rel => exact ⟨rfl, HBg.out⟩
                  · obtain rfl : ok = okf := by rw [← HOK.out]; exact Bool.true_and _
                    refine wp_region_class (fun w' => Below (wa.heap.size) (wa) w') (by kernel_rfl) (by kernel_rfl) (Below.refl _ _).drew ?_
                    repeat (first
                      | (refine wpLex_pass (by rfl) passes_plain ?_; (conv => arg 9; simp only [put_lit, put_lit_none, List.set]))
                      | (refine wpLex_plain (by rfl) ?_
                         apply Exists.intro
                         refine ⟨?_, ?_⟩
                         · intro w' hb
                           have hsz := hb.size
                           try simp at hsz
                           have hcw := fun b o (h : b < wa.heap.size) => hb.cell (p := ⟨b, o, none⟩) h
                           have hfw := fun b o (h : b < wa.heap.size) => hb.frozen (p := ⟨b, o, none⟩) h
                           go_simp
                           first
                             | exact ⟨rfl, hb⟩
                             | exact rfl
                             | ((with_reducible refine Calls.mono (HMA.out _) ?_); rintro e w2 ⟨rfl, hb2⟩; exact ⟨_, rfl, rfl, hb.trans (hb2.mono hsz)⟩)
                             | ((with_reducible refine Calls.mono (HPF.out _) ?_); rintro e w2 ⟨rfl, rfl⟩; exact ⟨_, rfl, rfl, hb⟩)
                         conv => arg 9; simp only [put_lit, put_lit_none, List.set]))
                    refine wpLex_nil ?_
                    intro wg hbg
                    have hsg := hbg.size
                    try simp at hsg
                    have hcg := fun b o (h : b < wa.heap.size) => hbg.cell (p := ⟨b, o, none⟩) h
                    have hfg := fun b o (h : b < wa.heap.size) => hbg.frozen (p := ⟨b, o, none⟩) h
                    have HBg := Lib.hid hbg
                    clear hbg
                    go_wp2_with fail
                    go_meet
                    case rel => exact ⟨rfl, HBg.out⟩
                case rest =>
                 
                  obtain ⟨rfl, hbc⟩ := hcut
                  obtain ⟨w2, rfl⟩ : ∃ w2 : World, w2 = wc := ⟨_, rfl⟩
                  have HB2 := Lib.hid hbc
                  have hs2 := hbc.size
                  clear hbc
                  have B6 := Lib.hid ((HB2.out.block _ h6a).trans A6.out)
                  have B10 := Lib.hid ((HB2.out.block _ (by omega)).trans A10.out)
                  have B11 := Lib.hid ((HB2.out.block _ (by omega)).trans A11.out)
                  have BH := Lib.hid ((HB2.out.block _ (heap_lt AH.out)).trans AH.out)
                  have BF := Lib.hid ((HB2.out.block _ (heap_lt AF.out)).trans AF.out)
                  have BO := Lib.hid (AO.out.below HB2.out (Nat.le_refl _))
                  have BB := Lib.hid (show Below wq.heap.size wq w2 from (by repeat' (first | (with_reducible exact Below.refl _ _) | (with_reducible (refine Below.setCell ?_ ?_ _)) | (with_reducible (refine Below.alloc ?_ ?_ _)) | (with_reducible (refine Below.drew ?_)) | (with_reducible (refine below_via ?_ HB2.out ?_)) | (with_reducible (refine below_via ?_ AB.out ?_)) | omega | (simp; done) | (simp; omega))))
                  have HXB := Lib.hid ((HB2.out.block _ hxa).trans HXA.out)
                  have HCPB := Lib.hid ((HB2.out.cell (p := ⟨bp, op + k, none⟩) hbpa).trans HCPA.out)
                  clear A6 A10 A11 AH AF AO AB HXA HCPA HMA HPF x0 xf x6 xf6 hcpa
                  have hhp : hd < wd.heap.size := by omega
                  have hfp2 : fd < wd.heap.size := by omega
                  go_upto_if 75 with fail
                  go_cut [11, 14] from 76 to 76 (fun v9 v12 W => ∃ R c, v9 = .int .i64 er ∧ v12 = .slice R rd.length c ∧ W.heap[wd.heap.size]? = some (.cells #[.int .i64 l0, .int .i64 l1, .bool l2, .bool l3, .bool l4, .bool l5, .bool l6, .int .i64 l7, .int .i64 l8] hitT (0, 0)) ∧ W.heap[wd.heap.size + 1]? = some (.cells #[.int .i64 m0, .int .i64 m1, .int .i64 m2, .bool m3, .int .i64 m4] faultT (0, 0)) ∧ Own W w2.heap.size intT 1 intCells rd R c ∧ Below wd.heap.size w2 W)
                  case first =>
                    cases ok
                    · have hn := HRN.out rfl
                      injection hn with n1 n2
                      injection n2 with n2 n3
                      obtain rfl : rd = [] := n3
                      injection n1 with n10 n11 n12 n13 n14 n15 n16 n17 n18
                      injection n2 with n20 n21 n22 n23 n24
                      subst n10 n11 n12 n13 n14 n15 n16 n17 n18 n20 n21 n22 n23 n24
                      obtain rfl : er = 1 := HER2.out.symm
                      go_wp2_with fail
                      go_meet
                      case rel => exact ⟨none, 0, rfl, rfl, B10.out, B11.out, World.ownsRow_nil _ _ _ _, Below.refl _ _⟩
                    · obtain rfl : er = 0 := HER2.out.symm
                      have HRV := Lib.hid (fun W (hb : Below wd.heap.size w2 W) => HRW.out rfl W (below_via BB.out hb (by omega)))
                      have x0 := fun j => cell_of_row _ _ j _ _ _ HXB.out
                      have xf := fun j => frozen_of_row _ _ j _ _ HXB.out
                      have cp2 := HCPB.out
                      have hxb : w.heap.size < wd.heap.size := by omega
                      have hbpb : bp < wd.heap.size := by omega
                      have hwpb : wd.heap.size ≤ w2.heap.size := by omega
                      have x6 := fun j => cell_of_row _ _ j _ _ _ B6.out
                      have xf6 := fun j => frozen_of_row _ _ j _ _ B6.out
                      have hx6 : wr.heap.size < wd.heap.size := by omega
                      go_upto_region 21 with fail
                     
                      refine wp_region_lex [90, 76, 93, 14] (GenC (wd.heap.size) (w2) (oldPs (w2).heap.size (wd.heap.size) (wd.heap.size + 1) zHit zFault #[.int .i64 l0, .int .i64 l1, .bool l2, .bool l3, .bool l4, .bool l5, .bool l6, .int .i64 l7, .int .i64 l8] #[.int .i64 m0, .int .i64 m1, .int .i64 m2, .bool m3, .int .i64 m4] [] (rd) 90 76 93 14 13 14 17 18 19 20)) (genC_looks (by rfl)) (by kernel_rfl) (by kernel_rfl) (by kernel_rfl) (genC_start _ (start_old (B10.out) (B11.out))) ?_
                      repeat (first
                        | (refine wpLex_genMake 0 _ 90 [] (by omega) stays_old rfl (by rfl) (by rfl) (by rfl) (by rfl) (by rfl) (by rfl) (by rfl) (by rfl) ?_ ?_
                           · intro u w' hb hk
                             have hsz := hb.size
                             try simp at hsz
                             have hcw := fun b o (h : b < wd.heap.size) => hb.cell (p := ⟨b, o, none⟩) h
                             have hfw := fun b o (h : b < wd.heap.size) => hb.frozen (p := ⟨b, o, none⟩) h
                             try simp only [putS, List.foldl, put_lit, List.set]
                             go_simp
                             (with_reducible refine Calls.mono (HRV.out _ (by repeat' (first | (with_reducible exact Below.refl _ _) | (with_reducible (refine Below.setCell ?_ ?_ _)) | (with_reducible (refine Below.alloc ?_ ?_ _)) | (with_reducible (refine Below.drew ?_)) | (with_reducible (refine below_via ?_ hb ?_)) | omega | (simp; done) | (simp; omega)))) ?_)
                             rintro e w2 ⟨R, c, rfl, h1, hb2⟩
                             exact ⟨_, rfl, makeOk ⟨_, rfl⟩ ⟨R, c, rfl, h1.mono (by first | exact Nat.le_refl _ | exact hsz | omega)⟩ hb2⟩
                           (conv => arg 9; simp only [put_lit, put_lit_none, List.set]))
                        | (refine wpLex_genMake 1 _ 76 [0] (by omega) stays_old rfl (by rfl) (by rfl) (by rfl) (by rfl) (by rfl) (by rfl) (by rfl) (by rfl) ?_ ?_
                           · intro u w' hb hk
                             have hsz := hb.size
                             try simp at hsz
                             have hcw := fun b o (h : b < wd.heap.size) => hb.cell (p := ⟨b, o, none⟩) h
                             have hfw := fun b o (h : b < wd.heap.size) => hb.frozen (p := ⟨b, o, none⟩) h
                             try simp only [putS, List.foldl, put_lit, List.set]
                             obtain ⟨R, c, e0, h1⟩ := (hk 0 (by simp) _ rfl).2
                             have e0' : u 90 = .tuple #[.agg #[.int .i64 l0, .int .i64 l1, .bool l2, .bool l3, .bool l4, .bool l5, .bool l6, .int .i64 l7, .int .i64 l8], .agg #[.int .i64 m0, .int .i64 m1, .int .i64 m2, .bool m3, .int .i64 m4], .slice R (rd).length c] := e0
                             rw [e0']
                             go_simp
                             exact makeOk ⟨_, rfl⟩ ⟨R, c, rfl, h1⟩ (Below.refl _ _)
                           (conv => arg 9; simp only [put_lit, put_lit_none, List.set]))
                        | (refine wpLex_genMake 2 _ 93 [1] (by omega) stays_old rfl (by rfl) (by rfl) (by rfl) (by rfl) (by rfl) (by rfl) (by rfl) (by rfl) ?_ ?_
                           · intro u w' hb hk
                             have hsz := hb.size
                             try simp at hsz
                             have hcw := fun b o (h : b < wd.heap.size) => hb.cell (p := ⟨b, o, none⟩) h
                             have hfw := fun b o (h : b < wd.heap.size) => hb.frozen (p := ⟨b, o, none⟩) h
                             try simp only [putS, List.foldl, put_lit, List.set]
                             obtain ⟨R, c, e0, h1⟩ := (hk 1 (by simp) _ rfl).2
                             have e0' : u 76 = .tuple #[.agg #[.int .i64 l0, .int .i64 l1, .bool l2, .bool l3, .bool l4, .bool l5, .bool l6, .int .i64 l7, .int .i64 l8], .agg #[.int .i64 m0, .int .i64 m1, .int .i64 m2, .bool m3, .int .i64 m4], .slice R (rd).length c] := e0
                             rw [e0']
                             go_simp
                             exact makeOk trivial ⟨R, c, rfl, h1⟩ (Below.refl _ _)
                           (conv => arg 9; simp only [put_lit, put_lit_none, List.set]))
                        | (refine wpLex_genUseV [1] (by omega) stays_old (by rfl) (by rfl) (by rfl) ?_
                           apply Exists.intro
                           refine ⟨?_, ?_⟩
                           · intro u w' hb hk
                             have hsz := hb.size
                             try simp at hsz
                             have hcw := fun b o (h : b < wd.heap.size) => hb.cell (p := ⟨b, o, none⟩) h
                             have hfw := fun b o (h : b < wd.heap.size) => hb.frozen (p := ⟨b, o, none⟩) h
                             try simp only [putS, List.foldl, put_lit, List.set]
                             obtain ⟨x, e0⟩ := hk 1 (by simp) _ rfl
                             have e0' : u 76 = .tuple #[.agg #[.int .i64 l0, .int .i64 l1, .bool l2, .bool l3, .bool l4, .bool l5, .bool l6, .int .i64 l7, .int .i64 l8], .agg #[.int .i64 m0, .int .i64 m1, .int .i64 m2, .bool m3, .int .i64 m4], x] := e0
                             rw [e0']
                             go_simp
                             exact ⟨rfl, Below.refl _ _⟩
                           (conv => arg 9; simp only [put_lit, put_lit_none, List.set]))
                        | (refine wpLex_genMake 7 _ 14 [2] (by omega) stays_old rfl (by rfl) (by rfl) (by rfl) (by rfl) (by rfl) (by rfl) (by rfl) (by rfl) ?_ ?_
                           · intro u w' hb hk
                             have hsz := hb.size
                             try simp at hsz
                             have hcw := fun b o (h : b < wd.heap.size) => hb.cell (p := ⟨b, o, none⟩) h
                             have hfw := fun b o (h : b < wd.heap.size) => hb.frozen (p := ⟨b, o, none⟩) h
                             try simp only [putS, List.foldl, put_lit, List.set]
                             obtain ⟨R, c, e0, h1⟩ := (hk 2 (by simp) _ rfl).2
                             have e0' : u 93 = .slice R (rd).length c := e0
                             rw [e0']
                             go_simp
                             exact makeOk trivial ⟨R, c, rfl, h1⟩ (Below.refl _ _)
                           (conv => arg 9; simp only [put_lit, put_lit_none, List.set]))
                        | (refine wpLex_genStore hitT 5 _ [3] rfl (by rfl) (by rfl) (by rfl) (by rfl) (by rfl) (by rfl) stab_old1 ?_ ?_
                           · intro u w' hb hk
                             have hsz := hb.size
                             try simp at hsz
                             have hcw := fun b o (h : b < wd.heap.size) => hb.cell (p := ⟨b, o, none⟩) h
                             have hfw := fun b o (h : b < wd.heap.size) => hb.frozen (p := ⟨b, o, none⟩) h
                             try simp only [putS, List.foldl, put_lit, List.set]
                             have hz : w'.heap[wd.heap.size]? = some (.cells zHit hitT (0, 0)) := (hk 3 (by simp) _ rfl).2
                             have hzc := fun j => cell_of_row _ _ j _ _ _ hz
                             have hzf := fun j => frozen_of_row _ _ j _ _ hz
                             simp only [zHit] at hzc
                             go_simp
                             exact storeOk trivial (blkG_intro (v := undef) (by simp [World.setCell, Array.getElem?_modify, hz, zHit])) (by repeat' (first | (with_reducible exact hb) | (with_reducible (refine Below.setCell ?_ ?_ _)) | omega | (simp; done))) (by simp) (wd.heap.size) hz (fun x hx => by repeat (rw [heap_set_other (by exact hx)])))
                        | (refine wpLex_genStore faultT 6 _ [4] rfl (by rfl) (by rfl) (by rfl) (by rfl) (by rfl) (by rfl) stab_old2 ?_ ?_
                           · intro u w' hb hk
                             have hsz := hb.size
                             try simp at hsz
                             have hcw := fun b o (h : b < wd.heap.size) => hb.cell (p := ⟨b, o, none⟩) h
                             have hfw := fun b o (h : b < wd.heap.size) => hb.frozen (p := ⟨b, o, none⟩) h
                             try simp only [putS, List.foldl, put_lit, List.set]
                             have hz : w'.heap[wd.heap.size + 1]? = some (.cells zFault faultT (0, 0)) := (hk 4 (by simp) _ rfl).2
                             have hzc := fun j => cell_of_row _ _ j _ _ _ hz
                             have hzf := fun j => frozen_of_row _ _ j _ _ hz
                             simp only [zFault] at hzc
                             go_simp
                             exact storeOk trivial (blkG_intro (v := undef) (by simp [World.setCell, Array.getElem?_modify, hz, zFault])) (by repeat' (first | (with_reducible exact hb) | (with_reducible (refine Below.setCell ?_ ?_ _)) | omega | (simp; done))) (by simp) (wd.heap.size + 1) hz (fun x hx => by repeat (rw [heap_set_other (by exact hx)])))
                        | (refine wpLex_pass (by rfl) (passes_gen stays_old (by rfl)) ?_; (conv => arg 9; simp only [put_lit, put_lit_none, List.set]))
                        | (refine wpLex_genUse [] (by omega) stays_old (by rfl) (by rfl) (by rfl) ?_
                           apply Exists.intro
                           refine ⟨?_, ?_⟩
                           · intro u w' hb _
                             have hsz := hb.size
                             try simp at hsz
                             have hcw := fun b o (h : b < wd.heap.size) => hb.cell (p := ⟨b, o, none⟩) h
                             have hfw := fun b o (h : b < wd.heap.size) => hb.frozen (p := ⟨b, o, none⟩) h
                             try simp only [putS, List.foldl, put_lit, List.set]
                             go_simp
                             first
                               | exact ⟨rfl, Below.refl _ _⟩
                               | exact Below.refl _ _
                               | exact rfl
                           (conv => arg 9; simp only [put_lit, put_lit_none, List.set])))
                      refine wpLex_nil ?_
                      intro wt bt dt hdt hCt hot
                      obtain ⟨ut, rfl, hbt, hkt⟩ := genC_end hCt hdt hot
                      clear hCt hot hdt dt
                      simp only [putS, List.foldl, put_lit, List.set]
                      have hst := hbt.size
                      try simp at hst
                      have hxt : wt.heap[wd.heap.size]? = some (.cells #[.int .i64 l0, .int .i64 l1, .bool l2, .bool l3, .bool l4, .bool l5, .bool l6, .int .i64 l7, .int .i64 l8] hitT (0, 0)) := (hkt 5 _ rfl (by rfl) rfl).2
                      have hyt : wt.heap[wd.heap.size + 1]? = some (.cells #[.int .i64 m0, .int .i64 m1, .int .i64 m2, .bool m3, .int .i64 m4] faultT (0, 0)) := (hkt 6 _ rfl (by rfl) rfl).2
                      obtain ⟨Rt, ct, elt, hrt⟩ := (hkt 7 _ rfl (by rfl) rfl).2
                      have elt' : ut 14 = _ := elt
                      rw [elt']
                      clear hkt
                      generalize ut 90 = xt90 at *
                      generalize ut 76 = xt76 at *
                      generalize ut 93 = xt93 at *
                      clear elt elt' ut
                      have HXt := Lib.hid hxt
                      have HYt := Lib.hid hyt
                      have HOt := Lib.hid hrt
                      clear hxt hyt hrt
                      have hct := fun b o (h : b < wd.heap.size) => hbt.cell (p := ⟨b, o, none⟩) h
                      have hft := fun b o (h : b < wd.heap.size) => hbt.frozen (p := ⟨b, o, none⟩) h
                      have HBt := Lib.hid hbt
                      clear hbt
                     
                      go_wp2_with fail
                      go_meet
                      case rel => exact ⟨Rt, ct, rfl, rfl, HXt.out, HYt.out, HOt.out, HBt.out⟩
                  case rest =>
                   
                    obtain ⟨R2, c2, rfl, rfl, h10, h11, ho2, hb2⟩ := hcut
                    obtain ⟨we, rfl⟩ : ∃ we : World, we = wc := ⟨_, rfl⟩
                    have HEH := Lib.hid ((hb2.block _ hhp).trans BH.out)
                    have HEF := Lib.hid ((hb2.block _ hfp2).trans BF.out)
                    have HO2 := Lib.hid ho2
                    have H10 := Lib.hid h10
                    have H11 := Lib.hid h11
                    have HBE := Lib.hid (below_via BB.out hb2 (by omega))
                    have HOE := Lib.hid (BO.out.keep2 (w' := we) fun p hp => hb2.block _ (HRB.out p hp))
                    have hse := hb2.size
                    clear h10 h11 ho2 hb2 B10 B11 BH BF BO HXB HCPB HRW HRN HER2
                    have HEQ := Lib.hid (fun W (hb : Below we.heap.size we W) => EqNumbers_any Rd R2 cd c2 rd rd W (by omega) (by omega) ((HOE.out.below hb (Nat.le_refl _)).at_ int_len) ((HO2.out.below hb (Nat.le_refl _)).at_ int_len))
                    rw [show decide (rd = rd) = true by simp] at HEQ
                    have e1 := fun j => cell_of_row _ _ j _ _ _ HEH.out
                    have e2 := fun j => cell_of_row _ _ j _ _ _ HEF.out
                    have e3 := fun j => cell_of_row _ _ j _ _ _ H10.out
                    have e4 := fun j => cell_of_row _ _ j _ _ _ H11.out
                   
                    go_wp2_with (go_at_call 30; refine (HNU.out _ _).mono ?_; rintro e w' ⟨rfl, rfl⟩)
                   
                    refine Calls.mono (HEQ.out _ (Below.refl _ _)) ?_
                    rintro e w4 ⟨rfl, hb4⟩
                    have hs4 := hb4.size
                    try simp at hs4
                    have HB4 := Lib.hid hb4
                    clear hb4
                   
                    have HB9 := Lib.hid (below_via QB.out (below_via HBE.out HB4.out HBE.out.size) (by omega))
                    go_wp2_with fail
                    go_roundg (2 - (t + 1))
                    case rel => exact ⟨t + 1, by omega, rfl, by go_num, below_via HBT.out HB9.out HBT.out.size⟩
                    case measure => have := HGT.out; omega
              · have hti : ¬ (t : Int) < 2 := by omega
               
                go_wp2_with fail
                go_roundg ((4 - (s + 1)).toNat)
                case rel => exact ⟨s + 1, by omega, by omega, rfl, rfl, (by repeat' (first | (with_reducible exact Below.refl _ _) | (with_reducible (refine Below.setCell ?_ ?_ _)) | (with_reducible (refine Below.alloc ?_ ?_ _)) | (with_reducible (refine Below.drew ?_)) | (with_reducible (refine below_via ?_ HBT.out ?_)) | (with_reducible (refine below_via ?_ HBV.out ?_)) | omega | (simp; done) | (simp; omega)))⟩
                case measure => have := HGS.out; omega
          ·
            go_wp2
            go_roundg (10 - (k + 1))
            case rel => exact ⟨k + 1, by omega, by omega, rfl, by go_num, (by repeat' (first | (with_reducible exact Below.refl _ _) | (with_reducible (refine Below.setCell ?_ ?_ _)) | (with_reducible (refine Below.alloc ?_ ?_ _)) | (with_reducible (refine Below.drew ?_)) | (with_reducible (refine below_via ?_ HBV.out ?_)) | (with_reducible (refine below_via ?_ HBW.out ?_)) | omega | (simp; done) | (simp; omega)))⟩
            case measure => have := HGK.out; omega
      ·
        by_cases hka : k < pages.length
        · obtain rfl : k = 10 := by omega
          have hki : (10 : Int) < pages.length := by omega
          go_wp2_with fail
          refine Calls.mono (HWA.out _) ?_
          rintro e w5 ⟨rfl, hb5⟩
          have hs5 := hb5.size
          try simp at hs5
          have HB5 := Lib.hid hb5
          clear hb5
          go_wp2
          go_ret
          exact ⟨rfl, (by repeat' (first | (with_reducible exact Below.refl _ _) | (with_reducible (refine Below.setCell ?_ ?_ _)) | (with_reducible (refine Below.alloc ?_ ?_ _)) | (with_reducible (refine Below.drew ?_)) | (with_reducible (refine below_via ?_ HB5.out ?_)) | (with_reducible (refine below_via ?_ HBW.out ?_)) | (with_reducible (refine below_via ?_ HB.out ?_)) | omega | (simp; done) | (simp; omega)))⟩
        · have hki : ¬ (k : Int) < pages.length := by omega
          go_wp2_with fail
          refine Calls.mono (HWA.out _) ?_
          rintro e w5 ⟨rfl, hb5⟩
          have hs5 := hb5.size
          try simp at hs5
          have HB5 := Lib.hid hb5
          clear hb5
          go_wp2
          go_ret
          exact ⟨rfl, (by repeat' (first | (with_reducible exact Below.refl _ _) | (with_reducible (refine Below.setCell ?_ ?_ _)) | (with_reducible (refine Below.alloc ?_ ?_ _)) | (with_reducible (refine Below.drew ?_)) | (with_reducible (refine below_via ?_ HB5.out ?_)) | (with_reducible (refine below_via ?_ HBW.out ?_)) | (with_reducible (refine below_via ?_ HB.out ?_)) | omega | (simp; done) | (simp; omega)))⟩

end Go.Proofs.Ytddbndmbcdeggaa
