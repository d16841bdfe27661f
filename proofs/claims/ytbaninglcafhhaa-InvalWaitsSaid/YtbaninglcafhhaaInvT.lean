/-
  'InvalTakes' returns true, and of what was there nothing has turned. Conditions: the argument reads as such.
-/
import Derived.Test.YtbaninglcafhhaaTakeB
import Derived.Test.YtbaninglcafhhaaTakeC
import Derived.Test.YtbaninglcafhhaaAsk
import Derived.Test.YtbaninglcafhhaaEntD
namespace Go.Proofs.Ytbaninglcafhhaa
open Go.RowKit

theorem Takes_no {i : Inv} {e : Ent} (h : takesOk i e = false) (W : World) : Calls Try.prog 20 #[.agg i.cells.toArray, .agg e.cells.toArray] W fun y w' => y = .returned (.tuple #[.bool false, .int .i64 1]) ∧ Below W.heap.size W w' := by
  have := Takes_any i e W
  unfold takesRes at this
  rw [h] at this
  exact this
theorem Takes_yes {i : Inv} {e : Ent} (h : takesOk i e = true) (W : World) : Calls Try.prog 20 #[.agg i.cells.toArray, .agg e.cells.toArray] W fun y w' => y = .returned (.tuple #[.bool (takesE i e), .int .i64 0]) ∧ Below W.heap.size W w' := by
  have := Takes_any i e W
  unfold takesRes at this
  rw [h] at this
  exact this

set_option maxRecDepth 100000 in
set_option maxHeartbeats 8000000 in
theorem invalTakes_walk (q : Ask) (w : World) (hq : AskAt w q) :
    Calls Try.prog 3 #[.agg q.cells.toArray] w fun e w' => e = .returned (.bool true) ∧ Below w.heap.size w w' := by
  have HHV := Lib.hid (fun W (hb : Below w.heap.size w W) => heavy10_any q W (hq.below hb))
  have HI := Lib.hid hq.iat
  have HE := Lib.hid hq.eat
  have hil := hq.ilen
  have hel := hq.elen
  clear hq
  obtain ⟨ta, tc, ts, ia, ic, is_, ea, ec, es⟩ := q
  simp only [Ask.cells] at *
  have HWA := Lib.hid (fun W => wakes10_any W)
  have HNU := Lib.hid (fun (n : Int) W => dnum_any n W)
  go_enter Try.func3, Try.ntmps3
  go_wp2_with fail
  refine (HHV.out _ (by repeat' (first | (with_reducible exact Below.refl _ _) | (with_reducible (refine Below.setCell ?_ ?_ _)) | (with_reducible (refine Below.alloc ?_ ?_ _)) | (with_reducible (refine Below.drew ?_)) | omega | (simp; done) | (simp; omega)))).mono ?_
  rintro e w1 ⟨b, hlight, rfl, hb1⟩
  clear hlight HHV
  have hs1 := hb1.size
  simp at hs1
  have hc1 := fun o => (bcell hb1).1 w.heap.size o (by simp)
  have hf1 := fun o => (bcell hb1).2.1 w.heap.size o (by simp)
  have hz1 : w.heap.size < w1.heap.size := by omega
  have HB1 := Lib.hid hb1
  clear hb1
  cases b
  case true =>
    go_wp2
    go_ret
    exact ⟨rfl, (by repeat' (first | (with_reducible exact Below.refl _ _) | (with_reducible (refine Below.setCell ?_ ?_ _)) | (with_reducible (refine Below.alloc ?_ ?_ _)) | (with_reducible (refine Below.drew ?_)) | (with_reducible (refine below_via ?_ HB1.out ?_)) | omega | (simp; done) | (simp; omega)))⟩
  case false =>
    go_wp2_with fail
    clear hc1 hf1
    have HX := Lib.hid (show w1.heap[w.heap.size]? = some (.cells #[.slice ta ts.length tc, .slice ia is_.length ic, .slice ea es.length ec] askT (0, 0)) from (by repeat (first | (with_reducible assumption) | (with_reducible refine heap_below_is HB1.out (by (first | omega | (simp; done) | (simp; omega))) ?_) | (exact heap_at _ _ (by simp; done)) | (with_reducible refine heap_old_is _ _ (by (first | omega | (simp; done) | (simp; omega))) ?_) | (with_reducible refine heap_far_is (by (first | omega | (simp; done) | (simp; omega))) ?_))))
    have HB := Lib.hid ((by repeat' (first | (with_reducible exact Below.refl _ _) | (with_reducible (refine Below.setCell ?_ ?_ _)) | (with_reducible (refine Below.alloc ?_ ?_ _)) | (with_reducible (refine Below.drew ?_)) | (with_reducible (refine below_via ?_ HB1.out ?_)) | omega | (simp; done) | (simp; omega))) : Below w.heap.size w w1)
    go_loopw [3] (fun i wr => ∃ k : Nat, k ≤ is_.length ∧ k ≤ 12 ∧ i = .int .i64 k ∧ Below w1.heap.size w1 wr) (fun i _ => 12 - (intOf i).toNat)
    case atStart => exact ⟨0, Nat.zero_le _, Nat.zero_le _, rfl, Below.refl _ _⟩
    case round =>
      obtain ⟨k, hk, hk12, rfl, hbw⟩ := hrel
      have HXR := Lib.hid ((hbw.block _ hz1).trans HX.out)
      have HBW := Lib.hid hbw
      have hsw := hbw.size
      clear hbw
      have e1 := cell_of_row _ _ 1 _ _ _ HXR.out
      have ef := fun j => frozen_of_row _ _ j _ _ HXR.out
      have hxl := heap_lt HXR.out
      by_cases hlt : k < is_.length ∧ k < 12
      · obtain ⟨hlt, hlt12⟩ := hlt
        have hki : (k : Int) < is_.length := by omega
        have q12 : decide ((k : Int) < 12) = true := by simp; omega
        go_wp2_with fail
        clear e1 ef
        obtain ⟨wo, rfl⟩ : ∃ wo : World, wo = wr := ⟨_, rfl⟩
        go_loopw [4] (fun j wr => ∃ m : Nat, m ≤ es.length ∧ m ≤ 12 ∧ j = .int .i64 m ∧ Below wo.heap.size wo wr) (fun j _ => 12 - (intOf j).toNat)
        case atStart => exact ⟨0, Nat.zero_le _, Nat.zero_le _, rfl, Below.refl _ _⟩
        case round =>
          obtain ⟨m, hm, hm12, rfl, hbv⟩ := hrel
          have HXV := Lib.hid ((hbv.block _ hxl).trans HXR.out)
          have HBV := Lib.hid hbv
          have hsv := hbv.size
          clear hbv
          have HBR := Lib.hid ((by repeat' (first | (with_reducible exact Below.refl _ _) | (with_reducible (refine Below.setCell ?_ ?_ _)) | (with_reducible (refine Below.alloc ?_ ?_ _)) | (with_reducible (refine Below.drew ?_)) | (with_reducible (refine below_via ?_ HBV.out ?_)) | (with_reducible (refine below_via ?_ HBW.out ?_)) | (with_reducible (refine below_via ?_ HB.out ?_)) | omega | (simp; done) | (simp; omega))) : Below w.heap.size w wr)
          have e1 := cell_of_row _ _ 1 _ _ _ HXV.out
          have e2 := cell_of_row _ _ 2 _ _ _ HXV.out
          have ef := fun j => frozen_of_row _ _ j _ _ HXV.out
          have hxv := heap_lt HXV.out
          by_cases hmt : m < es.length ∧ m < 12
          · obtain ⟨hmt, hmt12⟩ := hmt
            have hmi : (m : Int) < es.length := by omega
            have q13 : decide ((m : Int) < 12) = true := by simp; omega
            obtain ⟨bi, oi, rfl, hbi, hci⟩ := at_cells HI.out HBR.out hlt
            obtain ⟨be, oe, rfl, hbe, hce⟩ := at_cells HE.out HBR.out hmt
            have hswr := HBR.out.size
            have hbi2 : bi < wr.heap.size := by omega
            have hbe2 : be < wr.heap.size := by omega
            generalize is_[k] = i at *
            generalize es[m] = e at *
            have HRI := Lib.hid (fun W => rInval_any i W)
            have HRE := Lib.hid (fun W => rent_any e W)
            have i0 := hci 0 _ rfl
            have i1 := hci 1 _ rfl
            have i2 := hci 2 _ rfl
            have i3 := hci 3 _ rfl
            have c0 := hce 0 _ rfl
            have c1 := hce 1 _ rfl
            have c2 := hce 2 _ rfl
            have c3 := hce 3 _ rfl
            have c4 := hce 4 _ rfl
            have c5 := hce 5 _ rfl
            have c6 := hce 6 _ rfl
            have c7 := hce 7 _ rfl
            have c8 := hce 8 _ rfl
            have c9 := hce 9 _ rfl
            have c10 := hce 10 _ rfl
            have c11 := hce 11 _ rfl
            have c12 := hce 12 _ rfl
            have c13 := hce 13 _ rfl
            simp only [Nat.add_zero] at c0 i0
            clear hci hce
            cases h1 : dueOk i
            · have HT := Lib.hid (fun W => Takes_no (i := i) (e := e) (by unfold takesOk; rw [h1]; rfl) W)
              rw [h1] at HRI
              clear h1
              obtain ⟨a0, a1, a2, a3, a4, a5, a6, a7, a8, a9, a10, a11, a12, a13⟩ := e
              obtain ⟨b0, b1, b2, b3⟩ := i
              dsimp only [Ent.cells, Inv.cells] at *
              go_wp2_with fail
              refine wp_region_class (fun w' => Below (wr.heap.size) (wr) w') (by kernel_rfl) (by kernel_rfl) (Below.refl _ _).drew ?_
              repeat (first
                | (refine wpLex_pass (by rfl) passes_plain ?_; (conv => arg 9; simp only [put_lit, put_lit_none, List.set]))
                | (refine wpLex_plain (by rfl) ?_
                   apply Exists.intro
                   refine ⟨?_, ?_⟩
                   · intro w' hb
                     have hsz := hb.size
                     try simp at hsz
                     have hcw := fun b o (h : b < wr.heap.size) => hb.cell (p := ⟨b, o, none⟩) h
                     have hfw := fun b o (h : b < wr.heap.size) => hb.frozen (p := ⟨b, o, none⟩) h
                     go_simp
                     first
                       | exact ⟨rfl, hb⟩
                       | exact rfl
                       | ((with_reducible refine Calls.mono (HT.out _) ?_); rintro e w2 ⟨rfl, hb2⟩; exact ⟨_, rfl, rfl, hb.trans (hb2.mono hsz)⟩)
                   conv => arg 9; simp only [put_lit, put_lit_none, List.set]))
              refine wpLex_nil ?_
              intro wq hbq
              have hsq := hbq.size
              try simp at hsq
              have hcq := fun b o (h : b < wr.heap.size) => hbq.cell (p := ⟨b, o, none⟩) h
              have hfq := fun b o (h : b < wr.heap.size) => hbq.frozen (p := ⟨b, o, none⟩) h
              have HBq := Lib.hid hbq
              clear hbq
              go_wp2_with fail
              refine Calls.mono (HRI.out _) ?_
              rintro e w3 ⟨rfl, hb3⟩
              have hs3 := hb3.size
              try simp at hs3
              have HB3 := Lib.hid hb3
              clear hb3
              go_wp2_with (go_at_call 24; refine (HNU.out _ _).mono ?_; rintro e w' ⟨rfl, rfl⟩)
              go_roundw
              case rel => exact ⟨m + 1, by omega, by omega, by go_num, (by repeat' (first | (with_reducible exact Below.refl _ _) | (with_reducible (refine Below.setCell ?_ ?_ _)) | (with_reducible (refine Below.alloc ?_ ?_ _)) | (with_reducible (refine Below.drew ?_)) | (with_reducible (refine below_via ?_ HB3.out ?_)) | (with_reducible (refine below_via ?_ HBq.out ?_)) | (with_reducible (refine below_via ?_ HBV.out ?_)) | omega | (simp; done) | (simp; omega)))⟩
              case measure => simp [intOf]; omega
            cases h2 : entOk e
            · have HT := Lib.hid (fun W => Takes_no (i := i) (e := e) (by unfold takesOk; rw [h1, h2]; rfl) W)
              rw [h1] at HRI
              rw [h2] at HRE
              clear h1 h2
              obtain ⟨a0, a1, a2, a3, a4, a5, a6, a7, a8, a9, a10, a11, a12, a13⟩ := e
              obtain ⟨b0, b1, b2, b3⟩ := i
              dsimp only [Ent.cells, Inv.cells] at *
              go_wp2_with fail
              refine wp_region_class (fun w' => Below (wr.heap.size) (wr) w') (by kernel_rfl) (by kernel_rfl) (Below.refl _ _).drew ?_
              repeat (first
                | (refine wpLex_pass (by rfl) passes_plain ?_; (conv => arg 9; simp only [put_lit, put_lit_none, List.set]))
                | (refine wpLex_plain (by rfl) ?_
                   apply Exists.intro
                   refine ⟨?_, ?_⟩
                   · intro w' hb
                     have hsz := hb.size
                     try simp at hsz
                     have hcw := fun b o (h : b < wr.heap.size) => hb.cell (p := ⟨b, o, none⟩) h
                     have hfw := fun b o (h : b < wr.heap.size) => hb.frozen (p := ⟨b, o, none⟩) h
                     go_simp
                     first
                       | exact ⟨rfl, hb⟩
                       | exact rfl
                       | ((with_reducible refine Calls.mono (HT.out _) ?_); rintro e w2 ⟨rfl, hb2⟩; exact ⟨_, rfl, rfl, hb.trans (hb2.mono hsz)⟩)
                   conv => arg 9; simp only [put_lit, put_lit_none, List.set]))
              refine wpLex_nil ?_
              intro wq hbq
              have hsq := hbq.size
              try simp at hsq
              have hcq := fun b o (h : b < wr.heap.size) => hbq.cell (p := ⟨b, o, none⟩) h
              have hfq := fun b o (h : b < wr.heap.size) => hbq.frozen (p := ⟨b, o, none⟩) h
              have HBq := Lib.hid hbq
              clear hbq
              go_wp2_with fail
              refine Calls.mono (HRI.out _) ?_
              rintro e w3 ⟨rfl, hb3⟩
              have hs3 := hb3.size
              try simp at hs3
              have HB3 := Lib.hid hb3
              clear hb3
              have hc3 := fun b o (h : b < wr.heap.size) => HB3.out.cell (p := ⟨b, o, none⟩) (show b < wq.heap.size by omega)
              have hf3 := fun b o (h : b < wr.heap.size) => HB3.out.frozen (p := ⟨b, o, none⟩) (show b < wq.heap.size by omega)
              go_wp2_with fail
              refine Calls.mono (HRE.out _) ?_
              rintro e w4 ⟨rfl, hb4⟩
              have hs4 := hb4.size
              try simp at hs4
              have HB4 := Lib.hid hb4
              clear hb4
              go_wp2_with (go_at_call 24; refine (HNU.out _ _).mono ?_; rintro e w' ⟨rfl, rfl⟩)
              go_roundw
              case rel => exact ⟨m + 1, by omega, by omega, by go_num, (by repeat' (first | (with_reducible exact Below.refl _ _) | (with_reducible (refine Below.setCell ?_ ?_ _)) | (with_reducible (refine Below.alloc ?_ ?_ _)) | (with_reducible (refine Below.drew ?_)) | (with_reducible (refine below_via ?_ HB4.out ?_)) | (with_reducible (refine below_via ?_ HB3.out ?_)) | (with_reducible (refine below_via ?_ HBq.out ?_)) | (with_reducible (refine below_via ?_ HBV.out ?_)) | omega | (simp; done) | (simp; omega)))⟩
              case measure => simp [intOf]; omega
            · have HT := Lib.hid (fun W => Takes_yes (i := i) (e := e) (by unfold takesOk; rw [h1, h2]; rfl) W)
              have HRT := Lib.hid (fun W => rtakes_any i e W h2 (dueOk_page h1).1 (dueOk_page h1).2)
              rw [h1] at HRI
              rw [h2] at HRE
              clear h1 h2
              generalize takesE i e = tk at *
              obtain ⟨a0, a1, a2, a3, a4, a5, a6, a7, a8, a9, a10, a11, a12, a13⟩ := e
              obtain ⟨b0, b1, b2, b3⟩ := i
              dsimp only [Ent.cells, Inv.cells] at *
              go_wp2_with fail
              refine wp_region_class (fun w' => Below (wr.heap.size) (wr) w') (by kernel_rfl) (by kernel_rfl) (Below.refl _ _).drew ?_
              repeat (first
                | (refine wpLex_pass (by rfl) passes_plain ?_; (conv => arg 9; simp only [put_lit, put_lit_none, List.set]))
                | (refine wpLex_plain (by rfl) ?_
                   apply Exists.intro
                   refine ⟨?_, ?_⟩
                   · intro w' hb
                     have hsz := hb.size
                     try simp at hsz
                     have hcw := fun b o (h : b < wr.heap.size) => hb.cell (p := ⟨b, o, none⟩) h
                     have hfw := fun b o (h : b < wr.heap.size) => hb.frozen (p := ⟨b, o, none⟩) h
                     go_simp
                     first
                       | exact ⟨rfl, hb⟩
                       | exact rfl
                       | ((with_reducible refine Calls.mono (HT.out _) ?_); rintro e w2 ⟨rfl, hb2⟩; exact ⟨_, rfl, rfl, hb.trans (hb2.mono hsz)⟩)
                   conv => arg 9; simp only [put_lit, put_lit_none, List.set]))
              refine wpLex_nil ?_
              intro wq hbq
              have hsq := hbq.size
              try simp at hsq
              have hcq := fun b o (h : b < wr.heap.size) => hbq.cell (p := ⟨b, o, none⟩) h
              have hfq := fun b o (h : b < wr.heap.size) => hbq.frozen (p := ⟨b, o, none⟩) h
              have HBq := Lib.hid hbq
              clear hbq
              go_wp2_with fail
              refine Calls.mono (HRI.out _) ?_
              rintro e w3 ⟨rfl, hb3⟩
              have hs3 := hb3.size
              try simp at hs3
              have HB3 := Lib.hid hb3
              clear hb3
              have hc3 := fun b o (h : b < wr.heap.size) => HB3.out.cell (p := ⟨b, o, none⟩) (show b < wq.heap.size by omega)
              have hf3 := fun b o (h : b < wr.heap.size) => HB3.out.frozen (p := ⟨b, o, none⟩) (show b < wq.heap.size by omega)
              go_wp2_with fail
              refine Calls.mono (HRE.out _) ?_
              rintro e w4 ⟨rfl, hb4⟩
              have hs4 := hb4.size
              try simp at hs4
              have HB4 := Lib.hid hb4
              clear hb4
              have hc4 := fun b o (h : b < wr.heap.size) => HB4.out.cell (p := ⟨b, o, none⟩) (show b < w3.heap.size by omega)
              have hf4 := fun b o (h : b < wr.heap.size) => HB4.out.frozen (p := ⟨b, o, none⟩) (show b < w3.heap.size by omega)
              have hx4 : w.heap.size < w4.heap.size := by omega
              have hbi4 : bi < w4.heap.size := by omega
              have hbe4 : be < w4.heap.size := by omega
              go_wp2_with fail
              refine wp_region_class (fun w' => Below (w4.heap.size) (w4) w') (by kernel_rfl) (by kernel_rfl) (Below.refl _ _).drew ?_
              repeat (first
                | (refine wpLex_pass (by rfl) passes_plain ?_; (conv => arg 9; simp only [put_lit, put_lit_none, List.set]))
                | (refine wpLex_plain (by rfl) ?_
                   apply Exists.intro
                   refine ⟨?_, ?_⟩
                   · intro w' hb
                     have hsz := hb.size
                     try simp at hsz
                     have hcw := fun b o (h : b < w4.heap.size) => hb.cell (p := ⟨b, o, none⟩) h
                     have hfw := fun b o (h : b < w4.heap.size) => hb.frozen (p := ⟨b, o, none⟩) h
                     go_simp
                     first
                       | exact ⟨rfl, hb⟩
                       | exact rfl
                       | ((with_reducible refine Calls.mono (HRT.out _) ?_); rintro e w2 ⟨rfl, hb2⟩; exact ⟨_, rfl, rfl, hb.trans (hb2.mono hsz)⟩)
                   conv => arg 9; simp only [put_lit, put_lit_none, List.set]))
              refine wpLex_nil ?_
              intro wp hbp
              have hsp := hbp.size
              try simp at hsp
              have hcp := fun b o (h : b < w4.heap.size) => hbp.cell (p := ⟨b, o, none⟩) h
              have hfp := fun b o (h : b < w4.heap.size) => hbp.frozen (p := ⟨b, o, none⟩) h
              have HBp := Lib.hid hbp
              clear hbp
              cases tk <;>
              · go_wp2_with (go_at_call 24; refine (HNU.out _ _).mono ?_; rintro e w' ⟨rfl, rfl⟩)
                go_roundw
                case rel => exact ⟨m + 1, by omega, by omega, by go_num, (by repeat' (first | (with_reducible exact Below.refl _ _) | (with_reducible (refine Below.setCell ?_ ?_ _)) | (with_reducible (refine Below.alloc ?_ ?_ _)) | (with_reducible (refine Below.drew ?_)) | (with_reducible (refine below_via ?_ HBp.out ?_)) | (with_reducible (refine below_via ?_ HB4.out ?_)) | (with_reducible (refine below_via ?_ HB3.out ?_)) | (with_reducible (refine below_via ?_ HBq.out ?_)) | (with_reducible (refine below_via ?_ HBV.out ?_)) | omega | (simp; done) | (simp; omega)))⟩
                case measure => simp [intOf]; omega
          · by_cases hka : m < es.length
            · obtain rfl : m = 12 := by omega
              have hmi : (12 : Int) < es.length := by omega
              go_wp2
              go_roundw
              case rel => exact ⟨k + 1, by omega, by omega, by go_num, (by repeat' (first | (with_reducible exact Below.refl _ _) | (with_reducible (refine Below.setCell ?_ ?_ _)) | (with_reducible (refine Below.alloc ?_ ?_ _)) | (with_reducible (refine Below.drew ?_)) | (with_reducible (refine below_via ?_ HBV.out ?_)) | (with_reducible (refine below_via ?_ HBW.out ?_)) | omega | (simp; done) | (simp; omega)))⟩
              case measure => simp [intOf]; omega
            · have hmi : ¬ (m : Int) < es.length := by omega
              go_wp2
              go_roundw
              case rel => exact ⟨k + 1, by omega, by omega, by go_num, (by repeat' (first | (with_reducible exact Below.refl _ _) | (with_reducible (refine Below.setCell ?_ ?_ _)) | (with_reducible (refine Below.alloc ?_ ?_ _)) | (with_reducible (refine Below.drew ?_)) | (with_reducible (refine below_via ?_ HBV.out ?_)) | (with_reducible (refine below_via ?_ HBW.out ?_)) | omega | (simp; done) | (simp; omega)))⟩
              case measure => simp [intOf]; omega
      · by_cases hka : k < is_.length
        · obtain rfl : k = 12 := by omega
          have hki : (12 : Int) < is_.length := by omega
          go_wp2_with fail
          refine Calls.mono (HWA.out _) ?_
          rintro e w5 ⟨rfl, hb5⟩
          have hs5 := hb5.size
          try simp at hs5
          have HB5 := Lib.hid hb5
          clear hb5
          go_wp2
          go_ret
          exact ⟨rfl, (by repeat' (first | (with_reducible exact Below.refl _ _) | (with_reducible (refine Below.setCell ?_ ?_ _)) | (with_reducible (refine Below.alloc ?_ ?_ _)) | (with_reducible (refine Below.drew ?_)) | (with_reducible (refine below_via ?_ HB5.out ?_)) | (with_reducible (refine below_via ?_ HBW.out ?_)) | (with_reducible (refine below_via ?_ HB.out ?_)) | omega | (simp; done) | (simp; omega)))⟩
        · have hki : ¬ (k : Int) < is_.length := by omega
          go_wp2_with fail
          refine Calls.mono (HWA.out _) ?_
          rintro e w5 ⟨rfl, hb5⟩
          have hs5 := hb5.size
          try simp at hs5
          have HB5 := Lib.hid hb5
          clear hb5
          go_wp2
          go_ret
          exact ⟨rfl, (by repeat' (first | (with_reducible exact Below.refl _ _) | (with_reducible (refine Below.setCell ?_ ?_ _)) | (with_reducible (refine Below.alloc ?_ ?_ _)) | (with_reducible (refine Below.drew ?_)) | (with_reducible (refine below_via ?_ HB5.out ?_)) | (with_reducible (refine below_via ?_ HBW.out ?_)) | (with_reducible (refine below_via ?_ HB.out ?_)) | omega | (simp; done) | (simp; omega)))⟩

end Go.Proofs.Ytbaninglcafhhaa
