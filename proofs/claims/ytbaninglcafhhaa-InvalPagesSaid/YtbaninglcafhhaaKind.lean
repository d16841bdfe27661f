/-
  What is left of any TLB without what one thing of a kind takes away is the page's, and stays so: the statement's own walk, for any kind. Conditions: the argument reads as such.
-/
import Derived.Test.YtbaninglcafhhaaInvT
import Derived.Test.YtbaninglcafhhaaLeft
import Derived.Test.YtbaninglcafhhaaRApp
import Derived.Test.YtbaninglcafhhaaPair
namespace Go.Proofs.Ytbaninglcafhhaa
open Go.RowKit

theorem EqTLB_lit (es : List Ent) (ds : List Inv) (A : Option Addr) (c : Nat) (B : Option Addr) (d : Nat) (A' : Option Addr) (c' : Nat) (B' : Option Addr) (d' : Nat) (w : World) (h1 : TlAt w ⟨A, c, es, B, d, ds⟩) (h2 : TlAt w ⟨A', c', es, B', d', ds⟩) :
    Calls Try.prog 39 #[.agg #[.slice A es.length c, .slice B ds.length d], .agg #[.slice A' es.length c', .slice B' ds.length d']] w fun e w' => e = .returned (.bool true) ∧ Below w.heap.size w w' :=
  EqTLB_same ⟨A, c, es, B, d, ds⟩ ⟨A', c', es, B', d', ds⟩ w h1 h2 rfl rfl

set_option maxRecDepth 100000 in
set_option maxHeartbeats 16000000 in
theorem kind_any (q : Ask) (kk : Int) (w : World) (hq : AskAt w q) :
    Calls Try.prog 33 #[.agg q.cells.toArray, .int .i64 kk] w fun e w' => e = .returned (.bool true) ∧ Below w.heap.size w w' := by
  have HHV := Lib.hid (fun W (hb : Below w.heap.size w W) => heavy10_any q W (hq.below hb))
  have HI := Lib.hid hq.iat
  have HT := Lib.hid hq.tat
  have HTG := Lib.hid (fun t ht => (hq.tok t ht).at_)
  have hil := hq.ilen
  have htl := hq.tlen
  clear hq
  obtain ⟨ta, tc, ts, ia, ic, is_, ea, ec, es⟩ := q
  simp only [Ask.cells] at *
  have HWA := Lib.hid (fun W => wakes10_any W)
  have HNU := Lib.hid (fun (n : Int) W => dnum_any n W)
  go_enter Try.func33, Try.ntmps33
  go_wp2_with fail
  refine (HHV.out _ (by repeat' (first | (with_reducible exact Below.refl _ _) | (with_reducible (refine Below.setCell ?_ ?_ _)) | (with_reducible (refine Below.alloc ?_ ?_ _)) | (with_reducible (refine Below.drew ?_)) | omega | (simp; done) | (simp; omega)))).mono ?_
  rintro e w1 ⟨b, hlight, rfl, hb1⟩
  clear hlight HHV
  have hs1 := hb1.size
  simp at hs1
  have hc1 := fun o => (bcell hb1).1 w.heap.size o (by simp)
  have hf1 := fun o => (bcell hb1).2.1 w.heap.size o (by simp)
  have hz1 : w.heap.size < w1.heap.size := by omega
  have HB1 := Lib.hid hb1
  clear hb1
  cases b
  case true =>
    go_wp2
    go_ret
    exact ⟨rfl, (by repeat' (first | (with_reducible exact Below.refl _ _) | (with_reducible (refine Below.setCell ?_ ?_ _)) | (with_reducible (refine Below.alloc ?_ ?_ _)) | (with_reducible (refine Below.drew ?_)) | (with_reducible (refine below_via ?_ HB1.out ?_)) | omega | (simp; done) | (simp; omega)))⟩
  case false =>
    go_wp2_with fail
    clear hc1 hf1
    have HX := Lib.hid (show w1.heap[w.heap.size]? = some (.cells #[.slice ta ts.length tc, .slice ia is_.length ic, .slice ea es.length ec] askT (0, 0)) from (by repeat (first | (with_reducible assumption) | (with_reducible refine heap_below_is HB1.out (by (first | omega | (simp; done) | (simp; omega))) ?_) | (exact heap_at _ _ (by simp; done)) | (with_reducible refine heap_old_is _ _ (by (first | omega | (simp; done) | (simp; omega))) ?_) | (with_reducible refine heap_far_is (by (first | omega | (simp; done) | (simp; omega))) ?_))))
    have HB := Lib.hid ((by repeat' (first | (with_reducible exact Below.refl _ _) | (with_reducible (refine Below.setCell ?_ ?_ _)) | (with_reducible (refine Below.alloc ?_ ?_ _)) | (with_reducible (refine Below.drew ?_)) | (with_reducible (refine below_via ?_ HB1.out ?_)) | omega | (simp; done) | (simp; omega))) : Below w.heap.size w w1)
    go_loopw [5] (fun i wr => ∃ k : Nat, k ≤ ts.length ∧ k ≤ 5 ∧ i = .int .i64 k ∧ Below w1.heap.size w1 wr) (fun i _ => 5 - (intOf i).toNat)
    case atStart => exact ⟨0, Nat.zero_le _, Nat.zero_le _, rfl, Below.refl _ _⟩
    case round =>
      obtain ⟨k, hk, hk12, rfl, hbw⟩ := hrel
      have HXR := Lib.hid ((hbw.block _ hz1).trans HX.out)
      have HBW := Lib.hid hbw
      have hsw := hbw.size
      clear hbw
      have e0 := cell_of_row _ _ 0 _ _ _ HXR.out
      have ef := fun j => frozen_of_row _ _ j _ _ HXR.out
      have hxl := heap_lt HXR.out
      by_cases hlt : k < ts.length ∧ k < 5
      · obtain ⟨hlt, hlt12⟩ := hlt
        have hki : (k : Int) < ts.length := by omega
        have q12 : decide ((k : Int) < 5) = true := by simp; omega
        go_wp2_with fail
        clear e0 ef
        obtain ⟨wo, rfl⟩ : ∃ wo : World, wo = wr := ⟨_, rfl⟩
        go_loopw [6] (fun j wr => ∃ m : Nat, m ≤ is_.length ∧ m ≤ 12 ∧ j = .int .i64 m ∧ Below wo.heap.size wo wr) (fun j _ => 12 - (intOf j).toNat)
        case atStart => exact ⟨0, Nat.zero_le _, Nat.zero_le _, rfl, Below.refl _ _⟩
        case round =>
          obtain ⟨m, hm, hm12, rfl, hbv⟩ := hrel
          have HXV := Lib.hid ((hbv.block _ hxl).trans HXR.out)
          have HBV := Lib.hid hbv
          have hsv := hbv.size
          clear hbv
          have HBR := Lib.hid ((by repeat' (first | (with_reducible exact Below.refl _ _) | (with_reducible (refine Below.setCell ?_ ?_ _)) | (with_reducible (refine Below.alloc ?_ ?_ _)) | (with_reducible (refine Below.drew ?_)) | (with_reducible (refine below_via ?_ HBV.out ?_)) | (with_reducible (refine below_via ?_ HBW.out ?_)) | (with_reducible (refine below_via ?_ HB.out ?_)) | omega | (simp; done) | (simp; omega))) : Below w.heap.size w wr)
          have e0 := cell_of_row _ _ 0 _ _ _ HXV.out
          have e1 := cell_of_row _ _ 1 _ _ _ HXV.out
          have ef := fun j => frozen_of_row _ _ j _ _ HXV.out
          have hxv := heap_lt HXV.out
          by_cases hmt : m < is_.length ∧ m < 12
          · obtain ⟨hmt, hmt12⟩ := hmt
            have hmi : (m : Int) < is_.length := by omega
            have q13 : decide ((m : Int) < 12) = true := by simp; omega
            obtain ⟨bi, oi, rfl, hbi, hci⟩ := at_cells HI.out HBR.out hmt
            obtain ⟨bt, ot, rfl, hbt, t0, t1⟩ := tl_cells HT.out HBR.out hlt
            have htat := HTG.out ts[k] (List.getElem_mem hlt)
            have hswr := HBR.out.size
            have hbi2 : bi < wr.heap.size := by omega
            have hbt2 : bt < wr.heap.size := by omega
            generalize is_[m] = i at *
            generalize ts[k] = t at *
            have HRT := Lib.hid (fun W (hb : Below w.heap.size w W) => rTLB_any t W (htat.below hb))
            have HRI := Lib.hid (fun W => rInval_any ⟨kk, i.vmid, i.asid, i.page⟩ W)
            have HTA := Lib.hid htat
            clear htat
            have i0 := hci 0 _ rfl
            have i1 := hci 1 _ rfl
            have i2 := hci 2 _ rfl
            have i3 := hci 3 _ rfl
            simp only [Nat.add_zero] at i0
            clear hci
            obtain ⟨pa, pc, pe, pd, pf, pg⟩ := t
            obtain ⟨b0, b1, b2, b3⟩ := i
            dsimp only [Tl.cells, Inv.cells] at *
            cases h1 : tlbOk pe pg
            · rw [h1] at HRT
              clear h1
              go_wp2_with fail
              refine Calls.mono (HRT.out _ (by repeat' (first | (with_reducible exact Below.refl _ _) | (with_reducible (refine Below.setCell ?_ ?_ _)) | (with_reducible (refine Below.alloc ?_ ?_ _)) | (with_reducible (refine Below.drew ?_)) | (with_reducible (refine below_via ?_ HBR.out ?_)) | omega | (simp; done) | (simp; omega)))) ?_
              rintro e w3 ⟨rfl, hb3⟩
              have hs3 := hb3.size
              try simp at hs3
              have HB3 := Lib.hid hb3
              clear hb3
              go_wp2_with fail
              go_roundw
              case rel => exact ⟨m + 1, by omega, by omega, by go_num, (by repeat' (first | (with_reducible exact Below.refl _ _) | (with_reducible (refine Below.setCell ?_ ?_ _)) | (with_reducible (refine Below.alloc ?_ ?_ _)) | (with_reducible (refine Below.drew ?_)) | (with_reducible (refine below_via ?_ HB3.out ?_)) | (with_reducible (refine below_via ?_ HBV.out ?_)) | omega | (simp; done) | (simp; omega)))⟩
              case measure => simp [intOf]; omega
            cases h2 : dueOk ⟨kk, b1, b2, b3⟩
            · rw [h1] at HRT
              rw [h2] at HRI
              clear h1 h2
              go_wp2_with fail
              refine Calls.mono (HRT.out _ (by repeat' (first | (with_reducible exact Below.refl _ _) | (with_reducible (refine Below.setCell ?_ ?_ _)) | (with_reducible (refine Below.alloc ?_ ?_ _)) | (with_reducible (refine Below.drew ?_)) | (with_reducible (refine below_via ?_ HBR.out ?_)) | omega | (simp; done) | (simp; omega)))) ?_
              rintro e w3 ⟨rfl, hb3⟩
              have hs3 := hb3.size
              try simp at hs3
              have hc3_0 := fun o => (bcell hb3).1 (wr.heap.size) o (by first | omega | (simp; done) | (simp; omega))
              have hf3_0 := fun o => (bcell hb3).2.1 (wr.heap.size) o (by first | omega | (simp; done) | (simp; omega))
              have hz3_0 := (bcell hb3).2.2 (wr.heap.size) (by first | omega | (simp; done) | (simp; omega))
              have HB3 := Lib.hid hb3
              clear hb3
              go_wp2_with fail
              refine Calls.mono (HRI.out _) ?_
              rintro e w4 ⟨rfl, hb4⟩
              have hs4 := hb4.size
              try simp at hs4
              have HB4 := Lib.hid hb4
              clear hb4
              go_wp2_with fail
              go_roundw
              case rel => exact ⟨m + 1, by omega, by omega, by go_num, (by repeat' (first | (with_reducible exact Below.refl _ _) | (with_reducible (refine Below.setCell ?_ ?_ _)) | (with_reducible (refine Below.alloc ?_ ?_ _)) | (with_reducible (refine Below.drew ?_)) | (with_reducible (refine below_via ?_ HB4.out ?_)) | (with_reducible (refine below_via ?_ HB3.out ?_)) | (with_reducible (refine below_via ?_ HBV.out ?_)) | omega | (simp; done) | (simp; omega)))⟩
              case measure => simp [intOf]; omega
            · obtain ⟨k1, k2, k3, k4⟩ := tlbOk_ents h1
              have HAP := Lib.hid (fun W (hb : Below w.heap.size w W) (g : Nat) (hat : At W (some ⟨g, 0, none⟩) 4 Inv.cells [⟨kk, b1, b2, b3⟩]) => Apply_yes ⟨pa, pc, pe, pd, pf, pg⟩ (some ⟨g, 0, none⟩) 1 [⟨kk, b1, b2, b3⟩] W (HTA.out.below hb) (by simp) hat h1 (by simp [h2]))
              have HRA := Lib.hid (fun W (hb : Below w.heap.size w W) (g : Nat) (hat : At W (some ⟨g, 0, none⟩) 4 Inv.cells [⟨kk, b1, b2, b3⟩]) => rApply_any ⟨pa, pc, pe, pd, pf, pg⟩ (some ⟨g, 0, none⟩) 1 [⟨kk, b1, b2, b3⟩] W (HTA.out.below hb) (by simp) hat (by dsimp only; omega) (by dsimp only; omega) k3 (by intro i hi; rw [List.mem_singleton] at hi; rw [hi]; exact h2))
              have HAG := Lib.hid (tlbOk_filter (fun e => !goneE [⟨kk, b1, b2, b3⟩] e) h1)
              have HGA := Lib.hid (gone_again pe ⟨kk, b1, b2, b3⟩)
              have HDU := Lib.hid h2
              simp only [Tl.cells, List.length_cons, List.length_nil, Nat.zero_add] at HAP HRA
              rw [h1] at HRT
              rw [h2] at HRI
              clear h1 h2 k3 k4
              have hes' := Nat.le_trans (List.length_filter_le (fun e => !goneE [⟨kk, b1, b2, b3⟩] e) pe) (show pe.length ≤ 140737488355328 by omega)
              generalize (pe.filter fun e => !goneE [⟨kk, b1, b2, b3⟩] e) = es' at *
              go_wp2_with fail
              refine Calls.mono (HRT.out _ (by repeat' (first | (with_reducible exact Below.refl _ _) | (with_reducible (refine Below.setCell ?_ ?_ _)) | (with_reducible (refine Below.alloc ?_ ?_ _)) | (with_reducible (refine Below.drew ?_)) | (with_reducible (refine below_via ?_ HBR.out ?_)) | omega | (simp; done) | (simp; omega)))) ?_
              rintro e w3 ⟨rfl, hb3⟩
              have hs3 := hb3.size
              try simp at hs3
              have hc3_0 := fun o => (bcell hb3).1 (wr.heap.size) o (by first | omega | (simp; done) | (simp; omega))
              have hf3_0 := fun o => (bcell hb3).2.1 (wr.heap.size) o (by first | omega | (simp; done) | (simp; omega))
              have hz3_0 := (bcell hb3).2.2 (wr.heap.size) (by first | omega | (simp; done) | (simp; omega))
              have HB3 := Lib.hid hb3
              clear hb3
              go_wp2_with fail
              refine Calls.mono (HRI.out _) ?_
              rintro e w4 ⟨rfl, hb4⟩
              have hs4 := hb4.size
              try simp at hs4
              have hc4_0 := fun o => (bcell hb4).1 (wr.heap.size) o (by first | omega | (simp; done) | (simp; omega))
              have hf4_0 := fun o => (bcell hb4).2.1 (wr.heap.size) o (by first | omega | (simp; done) | (simp; omega))
              have hz4_0 := (bcell hb4).2.2 (wr.heap.size) (by first | omega | (simp; done) | (simp; omega))
              have HB4 := Lib.hid hb4
              clear hb4
              go_wp2_with fail
              clear e0 e1 ef i0 i1 i2 i3
              have HY4 := Lib.hid (show w4.heap[wr.heap.size]? = some (.cells #[.int .i64 kk, .int .i64 b1, .int .i64 b2, .int .i64 b3] invT (0, 0)) from (HB4.out.block _ (by omega)).trans ((HB3.out.block _ (by simp)).trans (heap_new wr _)))
              have HX4 := Lib.hid (show w4.heap[w.heap.size]? = some (.cells #[.slice (some ⟨bt, ot, none⟩) ts.length tc, .slice (some ⟨bi, oi, none⟩) is_.length ic, .slice ea es.length ec] askT (0, 0)) from (by repeat (first | (with_reducible assumption) | (with_reducible exact HXV.out) | (with_reducible refine heap_below_is HB4.out (by (first | omega | (simp; done) | (simp; omega))) ?_) | (with_reducible refine heap_below_is HB3.out (by (first | omega | (simp; done) | (simp; omega))) ?_) | (exact heap_at _ _ (by simp; done)) | (with_reducible refine heap_old_is _ _ (by (first | omega | (simp; done) | (simp; omega))) ?_) | (with_reducible refine heap_far_is (by (first | omega | (simp; done) | (simp; omega))) ?_))))
              have HBX := Lib.hid ((by repeat' (first | (with_reducible exact Below.refl _ _) | (with_reducible (refine Below.setCell ?_ ?_ _)) | (with_reducible (refine Below.alloc ?_ ?_ _)) | (with_reducible (refine Below.drew ?_)) | (with_reducible (refine below_via ?_ HB4.out ?_)) | (with_reducible (refine below_via ?_ HB3.out ?_)) | omega | (simp; done) | (simp; omega))) : Below wr.heap.size wr w4)
              have t04 := (HBX.out.cell (p := ⟨bt, ot + k * 2, none⟩) hbt2).trans t0
              have t14 := (HBX.out.cell (p := ⟨bt, ot + k * 2 + 1, none⟩) hbt2).trans t1
              have y4 := fun j => cell_of_row _ _ j _ _ _ HY4.out
              have yf4 := fun j => frozen_of_row _ _ j _ _ HY4.out
              have z4 := fun j => cell_of_row _ _ j _ _ _ HX4.out
              have zf4 := fun j => frozen_of_row _ _ j _ _ HX4.out
              have hn1 : bt < w4.heap.size := by omega
              have hn2 : w.heap.size < w4.heap.size := by omega
              have hn3 : wr.heap.size < w4.heap.size := by omega
              clear t0 t1 hc3_0 hf3_0 hz3_0 hc4_0 hf4_0 hz4_0
              have HST : Stays (tlPs w4.heap.size w4.heap.size es' pg 0 7 8 9 11 12 63 55 64 8 [invsP [⟨kk, b1, b2, b3⟩] 6 12 62]) := stays_tl (stays_inv _ _ _ _)
              refine wp_region_lex [63, 55, 64, 8, 62] (PromC (w4) (tlPs w4.heap.size w4.heap.size es' pg 0 7 8 9 11 12 63 55 64 8 [invsP [⟨kk, b1, b2, b3⟩] 6 12 62])) (promC_looks (by rfl)) (by kernel_rfl) (by kernel_rfl) (by kernel_rfl) (promC_start _) ?_
              repeat (first
                | (refine wpLex_promMake 0 _ [5] HST rfl (by rfl) (by rfl) (by rfl) (by rfl) (by rfl) (by rfl) (by rfl) ?_ ?_
                   · intro u w' hb hk
                     have hsz := hb.size
                     try simp at hsz
                     have hcw := fun b o (h : b < (w4).heap.size) => hb.cell (p := ⟨b, o, none⟩) h
                     have hfw := fun b o (h : b < (w4).heap.size) => hb.frozen (p := ⟨b, o, none⟩) h
                     try simp only [putS, List.foldl, put_lit, List.set]
                     obtain ⟨g, e5, hg, hat⟩ := (hk 5 (by simp) _ rfl).2
                     have e5' : u 62 = _ := e5
                     rw [e5']
                     go_simp
                     (with_reducible refine Calls.mono (HAP.out _ (by repeat' (first | (with_reducible exact Below.refl _ _) | (with_reducible (refine Below.setCell ?_ ?_ _)) | (with_reducible (refine Below.alloc ?_ ?_ _)) | (with_reducible (refine Below.drew ?_)) | (with_reducible (refine below_via ?_ hb ?_)) | (with_reducible (refine below_via ?_ HBX.out ?_)) | (with_reducible (refine below_via ?_ HBR.out ?_)) | omega | (simp; done) | (simp; omega))) g hat) ?_)
                     rintro e w2 ⟨A, c, A', c', rfl, h1, h2, hb2⟩
                     exact ⟨_, rfl, ⟨_, rfl⟩, ⟨A, c, A', c', rfl, h1.mono (by omega), h2.mono (by omega)⟩, hb2⟩
                   (conv => arg 9; simp only [put_lit, put_lit_none, List.set]))
                | (refine wpLex_promMake 1 _ [0] HST rfl (by rfl) (by rfl) (by rfl) (by rfl) (by rfl) (by rfl) (by rfl) ?_ ?_
                   · intro u w' hb hk
                     have hsz := hb.size
                     try simp at hsz
                     have hcw := fun b o (h : b < (w4).heap.size) => hb.cell (p := ⟨b, o, none⟩) h
                     have hfw := fun b o (h : b < (w4).heap.size) => hb.frozen (p := ⟨b, o, none⟩) h
                     try simp only [putS, List.foldl, put_lit, List.set]
                     obtain ⟨A, c, A', c', e0, h1, h2⟩ := (hk 0 (by simp) _ rfl).2
                     have e0' : u 63 = _ := e0
                     rw [e0']
                     go_simp
                     exact ⟨⟨_, rfl⟩, ⟨A, c, A', c', rfl, h1, h2⟩, Below.refl _ _⟩
                   (conv => arg 9; simp only [put_lit, put_lit_none, List.set]))
                | (refine wpLex_promMake 2 _ [1] HST rfl (by rfl) (by rfl) (by rfl) (by rfl) (by rfl) (by rfl) (by rfl) ?_ ?_
                   · intro u w' hb hk
                     have hsz := hb.size
                     try simp at hsz
                     have hcw := fun b o (h : b < (w4).heap.size) => hb.cell (p := ⟨b, o, none⟩) h
                     have hfw := fun b o (h : b < (w4).heap.size) => hb.frozen (p := ⟨b, o, none⟩) h
                     try simp only [putS, List.foldl, put_lit, List.set]
                     obtain ⟨A, c, A', c', e1, h1, h2⟩ := (hk 1 (by simp) _ rfl).2
                     have e1' : u 55 = _ := e1
                     rw [e1']
                     go_simp
                     exact ⟨trivial, ⟨A, c, A', c', rfl, h1, h2⟩, Below.refl _ _⟩
                   (conv => arg 9; simp only [put_lit, put_lit_none, List.set]))
                | (refine wpLex_promUseV [1] HST (by rfl) (by rfl) (by rfl) ?_
                   apply Exists.intro
                   refine ⟨?_, ?_⟩
                   · intro u w' hb hk
                     have hsz := hb.size
                     try simp at hsz
                     have hcw := fun b o (h : b < (w4).heap.size) => hb.cell (p := ⟨b, o, none⟩) h
                     have hfw := fun b o (h : b < (w4).heap.size) => hb.frozen (p := ⟨b, o, none⟩) h
                     try simp only [putS, List.foldl, put_lit, List.set]
                     obtain ⟨x, e1⟩ := hk 1 (by simp) _ rfl
                     have e1' : u 55 = _ := e1
                     rw [e1']
                     go_simp
                     exact ⟨rfl, Below.refl _ _⟩
                   (conv => arg 9; simp only [put_lit, put_lit_none, List.set]))
                | (refine wpLex_promMake 3 _ [] HST rfl (by rfl) (by rfl) (by rfl) (by rfl) (by rfl) (by rfl) (by rfl) ?_ ?_
                   · intro u w' hb hk
                     have hsz := hb.size
                     try simp at hsz
                     have hcw := fun b o (h : b < (w4).heap.size) => hb.cell (p := ⟨b, o, none⟩) h
                     have hfw := fun b o (h : b < (w4).heap.size) => hb.frozen (p := ⟨b, o, none⟩) h
                     try simp only [putS, List.foldl, put_lit, List.set]
                     go_simp
                     exact ⟨trivial, ⟨_, rfl, hsz, heap_new _ _⟩, (Below.refl _ _).alloc (Nat.le_refl _) _⟩
                   (conv => arg 9; simp only [put_lit, put_lit_none, List.set]))
                | (refine wpLex_promStore 4 _ [2, 3] rfl (by rfl) (by rfl) (by rfl) (by rfl) (by rfl) (by rfl) ?_ ?_
                   · intro u w' hb hk
                     have hsz := hb.size
                     try simp at hsz
                     have hcw := fun b o (h : b < (w4).heap.size) => hb.cell (p := ⟨b, o, none⟩) h
                     have hfw := fun b o (h : b < (w4).heap.size) => hb.frozen (p := ⟨b, o, none⟩) h
                     try simp only [putS, List.foldl, put_lit, List.set]
                     obtain ⟨g, A, c, A', c', e2, e3, hz, hP, hB⟩ := put_step hb (hk 2 (by simp) _ rfl).2 (hk 3 (by simp) _ rfl).2
                     have e2' : u 64 = _ := e2
                     have e3' : u 8 = _ := e3
                     have hP2 : PutF _ _ _ _ (u 8) _ := hP
                     rw [e3'] at hP2
                     rw [e2', e3']
                     have hzc := fun j => cell_of_row _ _ j _ _ _ hz
                     have hzf := fun j => frozen_of_row _ _ j _ _ hz
                     go_simp
                     first | exact trivial | exact ⟨trivial, hP2, hB⟩ | exact ⟨rfl, trivial, hP2, hB⟩)
                | (refine wpLex_promMake 5 _ [] HST rfl (by rfl) (by rfl) (by rfl) (by rfl) (by rfl) (by rfl) (by rfl) ?_ ?_
                   · intro u w' hb hk
                     have hsz := hb.size
                     try simp at hsz
                     have hcw := fun b o (h : b < (w4).heap.size) => hb.cell (p := ⟨b, o, none⟩) h
                     have hfw := fun b o (h : b < (w4).heap.size) => hb.frozen (p := ⟨b, o, none⟩) h
                     try simp only [putS, List.foldl, put_lit, List.set]
                     go_simp
                     exact ⟨trivial, ⟨_, rfl, by simp, at_lit w' [⟨kk, b1, b2, b3⟩] _ #[.int .i64 kk, .int .i64 b1, .int .i64 b2, .int .i64 b3] inv_len rfl rfl⟩, (Below.refl _ _).alloc (Nat.le_refl _) _⟩
                   (conv => arg 9; simp only [put_lit, put_lit_none, List.set]))
                | (refine wpLex_pass (by rfl) (passes_prom HST (by rfl)) ?_; (conv => arg 9; simp only [put_lit, put_lit_none, List.set]))
                | (refine wpLex_promUse [] HST (by rfl) (by rfl) (by rfl) ?_
                   apply Exists.intro
                   refine ⟨?_, ?_⟩
                   · intro u w' hb _
                     have hsz := hb.size
                     try simp at hsz
                     have hcw := fun b o (h : b < (w4).heap.size) => hb.cell (p := ⟨b, o, none⟩) h
                     have hfw := fun b o (h : b < (w4).heap.size) => hb.frozen (p := ⟨b, o, none⟩) h
                     try simp only [putS, List.foldl, put_lit, List.set]
                     go_simp
                     first
                       | exact ⟨rfl, Below.refl _ _⟩
                       | exact Below.refl _ _
                       | exact rfl
                   (conv => arg 9; simp only [put_lit, put_lit_none, List.set])))
              refine wpLex_nil ?_
              intro wp bp dp hdp hCp hop
              obtain ⟨up, rfl, hbp, hkp⟩ := promC_end hCp hdp hop
              clear hCp hop hdp dp
              simp only [putS, List.foldl, put_lit, List.set]
              have hsp := hbp.size
              try simp at hsp
              have hcp := fun b o (h : b < (w4).heap.size) => hbp.cell (p := ⟨b, o, none⟩) h
              have hfp := fun b o (h : b < (w4).heap.size) => hbp.frozen (p := ⟨b, o, none⟩) h
              have HBp := Lib.hid hbp
              clear hbp
              obtain ⟨gp, Ap, cp, Bp, dp, ep, hgp, hxp, hop, hip⟩ := (hkp 4 _ rfl (of_decide_eq_true (by rfl)) rfl).2
              have ep' : up 8 = _ := ep
              rw [ep']
              clear hkp
              generalize up 63 = xp63 at *
              generalize up 55 = xp55 at *
              generalize up 64 = xp64 at *
              generalize up 62 = xp62 at *
              clear ep ep' up
              have hlp := heap_lt hxp
              have HXp := Lib.hid hxp
              have HOp := Lib.hid hop
              have HIp := Lib.hid hip
              clear hxp hop hip
              have HT1 := Lib.hid (TlAt.of_own HOp.out HIp.out hes' (by omega))
              have yp := fun j => (hcp wr.heap.size j hn3).trans (y4 j)
              have yfp := fun j => (hfp wr.heap.size j hn3).trans (yf4 j)
              have zp := fun j => (hcp w.heap.size j hn2).trans (z4 j)
              have zfp := fun j => (hfp w.heap.size j hn2).trans (zf4 j)
              have t0p := (hcp bt (ot + k * 2) hn1).trans t04
              have t1p := (hcp bt (ot + k * 2 + 1) hn1).trans t14
              have xp := fun j => cell_of_row _ _ j _ _ _ HXp.out
              have xfp := fun j => frozen_of_row _ _ j _ _ HXp.out
              have hm1 : bt < wp.heap.size := by omega
              have hm2 : w.heap.size < wp.heap.size := by omega
              have hm3 : wr.heap.size < wp.heap.size := by omega
              clear hcp hfp y4 yf4 z4 zf4 t04 t14
              go_wp2_with fail
              have HS2 : Stays ([⟨11, none, 77, NoV, InvsF [⟨kk, b1, b2, b3⟩]⟩, ⟨12, none, 78, NoV, ResF wp.heap.size es' pg⟩]) := stays_cons (fun _ _ _ h hb => InvsF.keep h hb) (stays_cons (fun _ _ _ h hb => ResF.keep h hb) stays_nil)
              refine wp_region_lex [77, 78] (PromC (wp) ([⟨11, none, 77, NoV, InvsF [⟨kk, b1, b2, b3⟩]⟩, ⟨12, none, 78, NoV, ResF wp.heap.size es' pg⟩])) (promC_looks (by rfl)) (by kernel_rfl) (by kernel_rfl) (by kernel_rfl) (promC_start _) ?_
              repeat (first
                | (refine wpLex_promMake 0 _ [] HS2 rfl (by rfl) (by rfl) (by rfl) (by rfl) (by rfl) (by rfl) (by rfl) ?_ ?_
                   · intro u w' hb hk
                     have hsz := hb.size
                     try simp at hsz
                     have hcw := fun b o (h : b < (wp).heap.size) => hb.cell (p := ⟨b, o, none⟩) h
                     have hfw := fun b o (h : b < (wp).heap.size) => hb.frozen (p := ⟨b, o, none⟩) h
                     try simp only [putS, List.foldl, put_lit, List.set]
                     go_simp
                     exact ⟨trivial, ⟨_, rfl, by simp, at_lit w' [⟨kk, b1, b2, b3⟩] _ #[.int .i64 kk, .int .i64 b1, .int .i64 b2, .int .i64 b3] inv_len rfl rfl⟩, (Below.refl _ _).alloc (Nat.le_refl _) _⟩
                   (conv => arg 9; simp only [put_lit, put_lit_none, List.set]))
                | (refine wpLex_promMake 1 _ [0] HS2 rfl (by rfl) (by rfl) (by rfl) (by rfl) (by rfl) (by rfl) (by rfl) ?_ ?_
                   · intro u w' hb hk
                     have hsz := hb.size
                     try simp at hsz
                     have hcw := fun b o (h : b < (wp).heap.size) => hb.cell (p := ⟨b, o, none⟩) h
                     have hfw := fun b o (h : b < (wp).heap.size) => hb.frozen (p := ⟨b, o, none⟩) h
                     try simp only [putS, List.foldl, put_lit, List.set]
                     obtain ⟨g, e5, hg, hat⟩ := (hk 0 (by simp) _ rfl).2
                     have e5' : u 77 = _ := e5
                     rw [e5']
                     go_simp
                     (with_reducible refine Calls.mono (HRA.out _ (by repeat' (first | (with_reducible exact Below.refl _ _) | (with_reducible (refine Below.setCell ?_ ?_ _)) | (with_reducible (refine Below.alloc ?_ ?_ _)) | (with_reducible (refine Below.drew ?_)) | (with_reducible (refine below_via ?_ hb ?_)) | (with_reducible (refine below_via ?_ HBp.out ?_)) | (with_reducible (refine below_via ?_ HBX.out ?_)) | (with_reducible (refine below_via ?_ HBR.out ?_)) | omega | (simp; done) | (simp; omega))) g hat) ?_)
                     rintro e w2 ⟨A, c, A', c', rfl, h1, h2, hb2⟩
                     exact ⟨_, rfl, trivial, ⟨A, c, A', c', rfl, h1.mono (by omega), h2.mono (by omega)⟩, hb2⟩
                   (conv => arg 9; simp only [put_lit, put_lit_none, List.set]))
                | (refine wpLex_promUse [1] HS2 (by rfl) (by rfl) (by rfl) ?_
                   apply Exists.intro
                   refine ⟨?_, ?_⟩
                   · intro u w' hb hk
                     have hsz := hb.size
                     try simp at hsz
                     have hcw := fun b o (h : b < (wp).heap.size) => hb.cell (p := ⟨b, o, none⟩) h
                     have hfw := fun b o (h : b < (wp).heap.size) => hb.frozen (p := ⟨b, o, none⟩) h
                     try simp only [putS, List.foldl, put_lit, List.set]
                     obtain ⟨A, c, A', c', e7, h1, h2⟩ := (hk 1 (by simp) _ rfl).2
                     have e7' : u 78 = _ := e7
                     rw [e7']
                     go_simp
                     (with_reducible refine Calls.mono (EqTLB_lit es' pg Ap cp Bp dp A c A' c' _ (HT1.out.below hb) (TlAt.of_own h1 h2 hes' (by omega))) ?_)
                     rintro e w2 ⟨rfl, hb2⟩
                     exact ⟨_, rfl, rfl, hb2⟩
                   (conv => arg 9; simp only [put_lit, put_lit_none, List.set]))
                | (refine wpLex_promUse [] HS2 (by rfl) (by rfl) (by rfl) ?_
                   apply Exists.intro
                   refine ⟨?_, ?_⟩
                   · intro u w' hb hk
                     have hsz := hb.size
                     try simp at hsz
                     have hcw := fun b o (h : b < (wp).heap.size) => hb.cell (p := ⟨b, o, none⟩) h
                     have hfw := fun b o (h : b < (wp).heap.size) => hb.frozen (p := ⟨b, o, none⟩) h
                     try simp only [putS, List.foldl, put_lit, List.set]
                     go_simp
                     (with_reducible refine Calls.mono (HNU.out _ _) ?_)
                     rintro e w2 ⟨rfl, rfl⟩
                     exact ⟨_, rfl, rfl, Below.refl _ _⟩
                   (conv => arg 9; simp only [put_lit, put_lit_none, List.set]))
                | (refine wpLex_pass (by rfl) (passes_prom HS2 (by rfl)) ?_; (conv => arg 9; simp only [put_lit, put_lit_none, List.set]))
                | (refine wpLex_promUse [] HS2 (by rfl) (by rfl) (by rfl) ?_
                   apply Exists.intro
                   refine ⟨?_, ?_⟩
                   · intro u w' hb _
                     have hsz := hb.size
                     try simp at hsz
                     have hcw := fun b o (h : b < (wp).heap.size) => hb.cell (p := ⟨b, o, none⟩) h
                     have hfw := fun b o (h : b < (wp).heap.size) => hb.frozen (p := ⟨b, o, none⟩) h
                     try simp only [putS, List.foldl, put_lit, List.set]
                     go_simp
                     first
                       | exact ⟨rfl, Below.refl _ _⟩
                       | exact Below.refl _ _
                       | exact rfl
                   (conv => arg 9; simp only [put_lit, put_lit_none, List.set])))
              refine wpLex_nil ?_
              intro wv bv dv hdv hCv hov
              obtain ⟨uv, rfl, hbv, hkv⟩ := promC_end hCv hdv hov
              clear hCv hov hdv dv
              simp only [putS, List.foldl, put_lit, List.set]
              have hsv := hbv.size
              try simp at hsv
              have hcv := fun b o (h : b < (wp).heap.size) => hbv.cell (p := ⟨b, o, none⟩) h
              have hfv := fun b o (h : b < (wp).heap.size) => hbv.frozen (p := ⟨b, o, none⟩) h
              have HBv := Lib.hid hbv
              clear hbv
              clear hkv
              generalize uv 77 = xy77 at *
              generalize uv 78 = xy78 at *
              clear uv
              have HTy := Lib.hid (HT1.out.below HBv.out)
              have HXy := Lib.hid ((HBv.out.block _ hlp).trans HXp.out)
              have HYy := Lib.hid ((HBv.out.block _ hm3).trans ((HBp.out.block _ hn3).trans HY4.out))
              have HBZ := Lib.hid ((by repeat' (first | (with_reducible exact Below.refl _ _) | (with_reducible (refine Below.setCell ?_ ?_ _)) | (with_reducible (refine Below.alloc ?_ ?_ _)) | (with_reducible (refine Below.drew ?_)) | (with_reducible (refine below_via ?_ HBv.out ?_)) | (with_reducible (refine below_via ?_ HBp.out ?_)) | (with_reducible (refine below_via ?_ HBX.out ?_)) | (with_reducible (refine below_via ?_ HBV.out ?_)) | omega | (simp; done) | (simp; omega))) : Below wo.heap.size wo wv)
              have hly := heap_lt HXy.out
              have xy := fun j => cell_of_row _ _ j _ _ _ HXy.out
              have xfy := fun j => frozen_of_row _ _ j _ _ HXy.out
              have yy := fun j => cell_of_row _ _ j _ _ _ HYy.out
              have yfy := fun j => frozen_of_row _ _ j _ _ HYy.out
              have HA2 := Lib.hid (fun (b : Nat) (hb : b = wv.heap.size) => Apply_yes ⟨Ap, cp, es', Bp, dp, pg⟩ (some ⟨b, 0, none⟩) 2 [⟨kk, b1, b2, b3⟩, ⟨kk, b1, b2, b3⟩] (wv.alloc (.cells #[.int .i64 kk, .int .i64 b1, .int .i64 b2, .int .i64 b3, .int .i64 kk, .int .i64 b1, .int .i64 b2, .int .i64 b3] invT)) (HTy.out.below ((Below.refl _ _).alloc (Nat.le_refl _) _)) (by simp) (at_lit wv [⟨kk, b1, b2, b3⟩, ⟨kk, b1, b2, b3⟩] b #[.int .i64 kk, .int .i64 b1, .int .i64 b2, .int .i64 b3, .int .i64 kk, .int .i64 b1, .int .i64 b2, .int .i64 b3] inv_len hb rfl) HAG.out (by simp [HDU.out]))
              simp only [Tl.cells, List.length_cons, List.length_nil, Nat.zero_add, HGA.out] at HA2
              clear xp xfp yp yfp zp zfp t0p t1p hm1 hm2 hm3 hn1 hn2 hn3 hcv hfv HRT HRI HAP HRA
              go_wp2_with fail
              refine Calls.mono (HA2.out _ rfl) ?_
              rintro e w8 ⟨A2, c2, B2, d2, rfl, ho8, hi8, hb8⟩
              have hs8 := hb8.size
              try simp at hs8
              have hc8_0 := fun o => (bcell hb8).1 (wv.heap.size) o (by first | omega | (simp; done) | (simp; omega))
              have hf8_0 := fun o => (bcell hb8).2.1 (wv.heap.size) o (by first | omega | (simp; done) | (simp; omega))
              have hz8_0 := (bcell hb8).2.2 (wv.heap.size) (by first | omega | (simp; done) | (simp; omega))
              have hc8_1 := fun o => (bcell hb8).1 (gp) o (by first | omega | (simp; done) | (simp; omega))
              have hf8_1 := fun o => (bcell hb8).2.1 (gp) o (by first | omega | (simp; done) | (simp; omega))
              have hz8_1 := (bcell hb8).2.2 (gp) (by first | omega | (simp; done) | (simp; omega))
              have HB8 := Lib.hid hb8
              clear hb8
              have Hho8 := Lib.hid ho8
              clear ho8
              have Hhi8 := Lib.hid hi8
              clear hi8
              go_wp2_with fail
              refine Calls.mono (HNU.out _ _) ?_
              rintro e w9 ⟨rfl, rfl⟩
              have HT8 := Lib.hid (TlAt.of_own Hho8.out Hhi8.out hes' (by omega))
              go_wp2_with fail
              refine Calls.mono (EqTLB_lit es' pg A2 c2 B2 d2 Ap cp Bp dp _ (HT8.out.below (by repeat' (first | (with_reducible exact Below.refl _ _) | (with_reducible (refine Below.setCell ?_ ?_ _)) | (with_reducible (refine Below.alloc ?_ ?_ _)) | (with_reducible (refine Below.drew ?_)) | omega | (simp; done) | (simp; omega)))) (HTy.out.below (by repeat' (first | (with_reducible exact Below.refl _ _) | (with_reducible (refine Below.setCell ?_ ?_ _)) | (with_reducible (refine Below.alloc ?_ ?_ _)) | (with_reducible (refine Below.drew ?_)) | (with_reducible (refine below_via ?_ HB8.out ?_)) | omega | (simp; done) | (simp; omega))))) ?_
              rintro e w7 ⟨rfl, hb7⟩
              have hs7 := hb7.size
              try simp at hs7
              have HB7 := Lib.hid hb7
              clear hb7
              go_wp2_with fail
              go_roundw
              case rel => exact ⟨m + 1, by omega, by omega, by go_num, (by repeat' (first | (with_reducible exact Below.refl _ _) | (with_reducible (refine Below.setCell ?_ ?_ _)) | (with_reducible (refine Below.alloc ?_ ?_ _)) | (with_reducible (refine Below.drew ?_)) | (with_reducible (refine below_via ?_ HB7.out ?_)) | (with_reducible (refine below_via ?_ HB8.out ?_)) | (with_reducible (refine below_via ?_ HBZ.out ?_)) | omega | (simp; done) | (simp; omega)))⟩
              case measure => simp [intOf]; omega
          · by_cases hka : m < is_.length
            · obtain rfl : m = 12 := by omega
              have hmi : (12 : Int) < is_.length := by omega
              go_wp2
              go_roundw
              case rel => exact ⟨k + 1, by omega, by omega, by go_num, (by repeat' (first | (with_reducible exact Below.refl _ _) | (with_reducible (refine Below.setCell ?_ ?_ _)) | (with_reducible (refine Below.alloc ?_ ?_ _)) | (with_reducible (refine Below.drew ?_)) | (with_reducible (refine below_via ?_ HBV.out ?_)) | (with_reducible (refine below_via ?_ HBW.out ?_)) | omega | (simp; done) | (simp; omega)))⟩
              case measure => simp [intOf]; omega
            · have hmi : ¬ (m : Int) < is_.length := by omega
              go_wp2
              go_roundw
              case rel => exact ⟨k + 1, by omega, by omega, by go_num, (by repeat' (first | (with_reducible exact Below.refl _ _) | (with_reducible (refine Below.setCell ?_ ?_ _)) | (with_reducible (refine Below.alloc ?_ ?_ _)) | (with_reducible (refine Below.drew ?_)) | (with_reducible (refine below_via ?_ HBV.out ?_)) | (with_reducible (refine below_via ?_ HBW.out ?_)) | omega | (simp; done) | (simp; omega)))⟩
              case measure => simp [intOf]; omega
      · by_cases hka : k < ts.length
        · obtain rfl : k = 5 := by omega
          have hki : (5 : Int) < ts.length := by omega
          go_wp2_with fail
          refine Calls.mono (HWA.out _) ?_
          rintro e w5 ⟨rfl, hb5⟩
          have hs5 := hb5.size
          try simp at hs5
          have HB5 := Lib.hid hb5
          clear hb5
          go_wp2
          go_ret
          exact ⟨rfl, (by repeat' (first | (with_reducible exact Below.refl _ _) | (with_reducible (refine Below.setCell ?_ ?_ _)) | (with_reducible (refine Below.alloc ?_ ?_ _)) | (with_reducible (refine Below.drew ?_)) | (with_reducible (refine below_via ?_ HB5.out ?_)) | (with_reducible (refine below_via ?_ HBW.out ?_)) | (with_reducible (refine below_via ?_ HB.out ?_)) | omega | (simp; done) | (simp; omega)))⟩
        · have hki : ¬ (k : Int) < ts.length := by omega
          go_wp2_with fail
          refine Calls.mono (HWA.out _) ?_
          rintro e w5 ⟨rfl, hb5⟩
          have hs5 := hb5.size
          try simp at hs5
          have HB5 := Lib.hid hb5
          clear hb5
          go_wp2
          go_ret
          exact ⟨rfl, (by repeat' (first | (with_reducible exact Below.refl _ _) | (with_reducible (refine Below.setCell ?_ ?_ _)) | (with_reducible (refine Below.alloc ?_ ?_ _)) | (with_reducible (refine Below.drew ?_)) | (with_reducible (refine below_via ?_ HB5.out ?_)) | (with_reducible (refine below_via ?_ HBW.out ?_)) | (with_reducible (refine below_via ?_ HB.out ?_)) | omega | (simp; done) | (simp; omega)))⟩

end Go.Proofs.Ytbaninglcafhhaa
