/-
  The statements that ask for all pages of an argument and those near them ('by') return true, and of what was there nothing has turned. Conditions: the argument reads as such.
-/
import Derived.Test.YtddbndmbcdeggaaNsN
namespace Go.Proofs.Ytddbndmbcdeggaa
open Go.RowKit

/-- The four numbers, in a new row. -/
def FourF (v : Value) (w : World) : Prop := ∃ g, v = .slice (some ⟨g, 0, none⟩) 4 4 ∧ w.heap[g]? = some (.cells #[.int .i64 0, .int .i64 1, .int .i64 8, .int .i64 64] intT (0, 0))
def PlaceF (s : Nat) (v : Value) (w : World) : Prop := ∃ g, v = .pointer (some ⟨g, s, none⟩) ∧ w.heap[g]? = some (.cells #[.int .i64 0, .int .i64 1, .int .i64 8, .int .i64 64] intT (0, 0))
def fourPs (s : Nat) : List Gp := [⟨some 6, some 8, some 40, NoW, FourF⟩, ⟨some 8, some 9, some 42, NoW, PlaceF s⟩]
theorem FourF.keep {v : Value} {w w' : World} (h : FourF v w) (hb : Below w.heap.size w w') : FourF v w' := by
  obtain ⟨g, e, h1⟩ := h
  exact ⟨g, e, (hb.block g (heap_lt h1)).trans h1⟩
theorem PlaceF.keep {s : Nat} {v : Value} {w w' : World} (h : PlaceF s v w) (hb : Below w.heap.size w w') : PlaceF s v w' := by
  obtain ⟨g, e, h1⟩ := h
  exact ⟨g, e, (hb.block g (heap_lt h1)).trans h1⟩
theorem stays_four {s : Nat} : StaysG (fourPs s) := staysG_cons (fun _ _ _ h hb => FourF.keep h hb) (staysG_cons (fun _ _ _ h hb => PlaceF.keep h hb) staysG_nil)
theorem start_four {s : Nat} {W : World} : ∀ p ∈ fourPs s, p.on = none → p.slot = none ∧ p.V undef ∧ p.F undef W.drew := by
  intro p hp hn
  simp only [fourPs, List.mem_cons, List.not_mem_nil, or_false] at hp
  rcases hp with rfl | rfl
  all_goals cases hn

set_option maxRecDepth 100000 in
set_option maxHeartbeats 16000000 in
theorem nestBy_walk (q : AskN) (acc : Int) (w : World) (hq : AskWAt w q.a) :
    Calls Try.prog 36 #[.agg q.cells.toArray, .int .i64 acc] w fun e w' => e = .returned (.bool true) ∧ Below w.heap.size w w' := by
  have HHV := Lib.hid (fun W => heavy5_any q.a W)
  obtain ⟨b, hb⟩ : ∃ b, heavyW q.a = b := ⟨_, rfl⟩
  rw [hb] at HHV
  have HLI := Lib.hid (fun (h : b = false) => heavyW_no (hb.trans h))
  have HME := Lib.hid (fun h => hq.me h)
  have HPA := Lib.hid hq.pat
  have HPO := Lib.hid hq.pok
  have HML := Lib.hid hq.mlen
  have HMY := Lib.hid (fun (page : Int) W => may7_any q page acc W (by have := HML.out; omega))
  have HMZ := Lib.hid (fun (page : Int) W => may7_any ⟨q.a, ⟨false, 0, 0⟩, q.one, 0⟩ page acc W (by have := HML.out; dsimp only; omega))
  clear hb hq
  obtain ⟨⟨ma, mc, ws, frame, pa, pc, pages⟩, ⟨on1, of1, ot1⟩, ⟨on2, of2, ot2⟩, ac⟩ := q
  dsimp only [AskN.cells, AskW.cells] at *
  have HWA := Lib.hid (fun W => wakes7_any W)
  have HNU := Lib.hid (fun (n : Int) W => num7_any n W)
  go_enter Try.func36, Try.ntmps36
  go_wp2_with fail
  refine Calls.mono (HHV.out _) ?_
  rintro e w1 ⟨rfl, hb1⟩
  have hs1 := hb1.size
  try simp at hs1
  have hc1_0 := fun o => (bcell hb1).1 (w.heap.size) o (by first | omega | (simp; done) | (simp; omega))
  have hf1_0 := fun o => (bcell hb1).2.1 (w.heap.size) o (by first | omega | (simp; done) | (simp; omega))
  have hz1_0 := (bcell hb1).2.2 (w.heap.size) (by first | omega | (simp; done) | (simp; omega))
  have HB1 := Lib.hid hb1
  clear hb1
  cases b
  case true =>
    go_wp2
    go_ret
    exact ⟨rfl, (by repeat' (first | (with_reducible exact Below.refl _ _) | (with_reducible (refine Below.setCell ?_ ?_ _)) | (with_reducible (refine Below.alloc ?_ ?_ _)) | (with_reducible (refine Below.drew ?_)) | (with_reducible (refine below_via ?_ HB1.out ?_)) | omega | (simp; done) | (simp; omega)))⟩
  case false =>
    obtain ⟨hw2, hp5⟩ := HLI.out rfl
    have HM := Lib.hid (HME.out hw2)
    clear HLI HME HML
    go_wp2_with fail
    have HX := Lib.hid (show w1.heap[w.heap.size]? = some (.cells #[.slice ma ws.length mc, .int .i64 frame, .slice pa pages.length pc, .bool on1, .int .i64 of1, .int .i64 ot1, .bool on2, .int .i64 of2, .int .i64 ot2, .int .i64 ac] 57 (0, 0)) from (by repeat (first | (with_reducible assumption) | (with_reducible refine heap_below_is HB1.out (by (first | omega | (simp; done) | (simp; omega))) ?_) | (exact heap_at _ _ (by simp; done)) | (with_reducible refine heap_old_is _ _ (by (first | omega | (simp; done) | (simp; omega))) ?_) | (with_reducible refine heap_far_is (by (first | omega | (simp; done) | (simp; omega))) ?_))))
    have HB := Lib.hid ((by repeat' (first | (with_reducible exact Below.refl _ _) | (with_reducible (refine Below.setCell ?_ ?_ _)) | (with_reducible (refine Below.alloc ?_ ?_ _)) | (with_reducible (refine Below.drew ?_)) | (with_reducible (refine below_via ?_ HB1.out ?_)) | omega | (simp; done) | (simp; omega))) : Below w.heap.size w w1)
    clear hc1_0 hf1_0
    go_loopg [5] 10 (fun gg i wr => ∃ k : Nat, k ≤ pages.length ∧ k ≤ 10 ∧ gg = 10 - k ∧ i = .int .i64 k ∧ Below w1.heap.size w1 wr)
    case atStart => exact ⟨0, Nat.zero_le _, Nat.zero_le _, rfl, rfl, Below.refl _ _⟩
    case round =>
      obtain ⟨k, hk, hk12, hgk, rfl, hbw⟩ := hrel
      have HGK := Lib.hid hgk
      clear hgk
      have HXR := Lib.hid ((hbw.block _ hz1_0).trans HX.out)
      have HBW := Lib.hid hbw
      have hsw := hbw.size
      clear hbw
      have ef := fun j => frozen_of_row _ _ j _ _ HXR.out
      have e2 := cell_of_row _ _ 2 _ _ _ HXR.out
      have hxl := heap_lt HXR.out
      by_cases hlt : k < pages.length ∧ k < 10
      · obtain ⟨hlt, hlt12⟩ := hlt
        have hki : (k : Int) < pages.length := by omega
        have q12 : decide ((k : Int) < 10) = true := by simp; omega
        go_wp2_with fail
        clear e2 ef
        obtain ⟨wo, rfl⟩ : ∃ wo : World, wo = wr := ⟨_, rfl⟩
        go_loopg [6] 4 (fun gg j wr => ∃ s : Nat, s ≤ 4 ∧ gg = 4 - s ∧ j = .int .i64 s ∧ Below wo.heap.size wo wr)
        case atStart => exact ⟨0, by omega, rfl, rfl, Below.refl _ _⟩
        case round =>
          obtain ⟨s, hs4, hgs, rfl, hbv⟩ := hrel
          have HGS := Lib.hid hgs
          have HXV := Lib.hid ((hbv.block _ hxl).trans HXR.out)
          have HBV := Lib.hid hbv
          have hsv := hbv.size
          clear hgs hbv
          have HBR := Lib.hid (show Below w.heap.size w wr from (by repeat' (first | (with_reducible exact Below.refl _ _) | (with_reducible (refine Below.setCell ?_ ?_ _)) | (with_reducible (refine Below.alloc ?_ ?_ _)) | (with_reducible (refine Below.drew ?_)) | (with_reducible (refine below_via ?_ HBV.out ?_)) | (with_reducible (refine below_via ?_ HBW.out ?_)) | (with_reducible (refine below_via ?_ HB.out ?_)) | omega | (simp; done) | (simp; omega))))
          by_cases hs : s < 4
          · have hsi : (s : Int) < 4 := by omega
            obtain ⟨bp, op, rfl, hbp, hcp⟩ := at_cell HPA.out HBR.out hlt rfl
            obtain ⟨page, hpage⟩ : ∃ x, pages[k] = x := ⟨_, rfl⟩
            rw [hpage] at hcp
            clear hpage
            have hsr := HBR.out.size
            have hbpr : bp < wr.heap.size := by omega
            have x0 := fun j => cell_of_row _ _ j _ _ _ HXV.out
            have xf := fun j => frozen_of_row _ _ j _ _ HXV.out
            have hxv := heap_lt HXV.out
            go_upto_region 9 with fail
           
            go_cut [7] from 34 to 34 (fun v W => ∃ pg : Int, v = .int .i64 pg ∧ Below wr.heap.size wr W)
            case first =>
              have hss : s = 0 ∨ s = 1 ∨ s = 2 ∨ s = 3 := by omega
              clear hsi hs
              rcases hss with rfl | rfl | rfl | rfl
              · refine wp_region_lex [40, 42] (GenC wr.heap.size wr (fourPs 0)) (genC_looks (by rfl)) (by kernel_rfl) (by kernel_rfl) (by kernel_rfl) (genC_start _ start_four) ?_
                repeat (first
                  | (refine wpLex_pass (by rfl) (passes_gen stays_four (by rfl)) ?_; (conv => arg 9; simp only [put_lit, put_lit_none, List.set]))
                  | (refine wpLex_genMake 0 _ 40 [] (Nat.le_refl _) stays_four rfl (by rfl) (by rfl) (by rfl) (by rfl) (by rfl) (by rfl) (by rfl) (by rfl) ?_ ?_
                     · intro u w' hb hk
                       try simp only [putS, List.foldl, put_lit, List.set]
                       go_simp
                       exact makeOk trivial ⟨_, rfl, heap_new _ _⟩ ((Below.refl _ _).alloc (Nat.le_refl _) _)
                     (conv => arg 9; simp only [put_lit, put_lit_none, List.set]))
                  | (refine wpLex_genMake 1 _ 42 [0] (Nat.le_refl _) stays_four rfl (by rfl) (by rfl) (by rfl) (by rfl) (by rfl) (by rfl) (by rfl) (by rfl) ?_ ?_
                     · intro u w' hb hk
                       obtain ⟨g, e0, hz⟩ := (hk 0 (by simp) _ rfl).2
                       have e0' : u 40 = _ := e0
                       try simp only [putS, List.foldl, put_lit, List.set]
                       rw [e0']
                       go_simp
                       exact makeOk trivial ⟨_, rfl, hz⟩ (Below.refl _ _)
                     (conv => arg 9; simp only [put_lit, put_lit_none, List.set]))
                  | (refine wpLex_genUse [1] (Nat.le_refl _) stays_four (by rfl) (by rfl) (by rfl) ?_
                     apply Exists.intro
                     refine ⟨?_, ?_⟩
                     · intro u w' hb hk
                       obtain ⟨g, e0, hz⟩ := (hk 1 (by simp) _ rfl).2
                       have e0' : u 42 = _ := e0
                       have hzc := cell_of_row _ _ 0 _ _ _ hz
                       have hzf := frozen_of_row _ _ 0 _ _ hz
                       try simp only [putS, List.foldl, put_lit, List.set]
                       rw [e0']
                       go_simp
                       first
                         | exact ⟨rfl, Below.refl _ _⟩
                         | exact Below.refl _ _
                     (conv => arg 9; simp only [put_lit, put_lit_none, List.set]))
                  | (refine wpLex_genUse [] (Nat.le_refl _) stays_four (by rfl) (by rfl) (by rfl) ?_
                     apply Exists.intro
                     refine ⟨?_, ?_⟩
                     · intro u w' hb _
                       have hsz := hb.size
                       try simp at hsz
                       have hcw := fun b o (h : b < wr.heap.size) => hb.cell (p := ⟨b, o, none⟩) h
                       have hfw := fun b o (h : b < wr.heap.size) => hb.frozen (p := ⟨b, o, none⟩) h
                       try simp only [putS, List.foldl, put_lit, List.set]
                       go_simp
                       first
                         | exact ⟨rfl, Below.refl _ _⟩
                         | exact Below.refl _ _
                         | exact rfl
                     (conv => arg 9; simp only [put_lit, put_lit_none, List.set])))
                refine wpLex_nil ?_
                intro w9 b9 d9 hd9 hC9 ho9
                obtain ⟨u9, rfl, hb9, hk9⟩ := genC_end hC9 hd9 ho9
                clear hC9 ho9 hd9 d9 hk9
                simp only [putS, List.foldl, put_lit, List.set]
                go_wp2_with fail
                go_meet
                case rel => exact ⟨_, rfl, hb9⟩
              · refine wp_region_lex [40, 42] (GenC wr.heap.size wr (fourPs 1)) (genC_looks (by rfl)) (by kernel_rfl) (by kernel_rfl) (by kernel_rfl) (genC_start _ start_four) ?_
                repeat (first
                  | (refine wpLex_pass (by rfl) (passes_gen stays_four (by rfl)) ?_; (conv => arg 9; simp only [put_lit, put_lit_none, List.set]))
                  | (refine wpLex_genMake 0 _ 40 [] (Nat.le_refl _) stays_four rfl (by rfl) (by rfl) (by rfl) (by rfl) (by rfl) (by rfl) (by rfl) (by rfl) ?_ ?_
                     · intro u w' hb hk
                       try simp only [putS, List.foldl, put_lit, List.set]
                       go_simp
                       exact makeOk trivial ⟨_, rfl, heap_new _ _⟩ ((Below.refl _ _).alloc (Nat.le_refl _) _)
                     (conv => arg 9; simp only [put_lit, put_lit_none, List.set]))
                  | (refine wpLex_genMake 1 _ 42 [0] (Nat.le_refl _) stays_four rfl (by rfl) (by rfl) (by rfl) (by rfl) (by rfl) (by rfl) (by rfl) (by rfl) ?_ ?_
                     · intro u w' hb hk
                       obtain ⟨g, e0, hz⟩ := (hk 0 (by simp) _ rfl).2
                       have e0' : u 40 = _ := e0
                       try simp only [putS, List.foldl, put_lit, List.set]
                       rw [e0']
                       go_simp
                       exact makeOk trivial ⟨_, rfl, hz⟩ (Below.refl _ _)
                     (conv => arg 9; simp only [put_lit, put_lit_none, List.set]))
                  | (refine wpLex_genUse [1] (Nat.le_refl _) stays_four (by rfl) (by rfl) (by rfl) ?_
                     apply Exists.intro
                     refine ⟨?_, ?_⟩
                     · intro u w' hb hk
                       obtain ⟨g, e0, hz⟩ := (hk 1 (by simp) _ rfl).2
                       have e0' : u 42 = _ := e0
                       have hzc := cell_of_row _ _ 1 _ _ _ hz
                       have hzf := frozen_of_row _ _ 1 _ _ hz
                       try simp only [putS, List.foldl, put_lit, List.set]
                       rw [e0']
                       go_simp
                       first
                         | exact ⟨rfl, Below.refl _ _⟩
                         | exact Below.refl _ _
                     (conv => arg 9; simp only [put_lit, put_lit_none, List.set]))
                  | (refine wpLex_genUse [] (Nat.le_refl _) stays_four (by rfl) (by rfl) (by rfl) ?_
                     apply Exists.intro
                     refine ⟨?_, ?_⟩
                     · intro u w' hb _
                       have hsz := hb.size
                       try simp at hsz
                       have hcw := fun b o (h : b < wr.heap.size) => hb.cell (p := ⟨b, o, none⟩) h
                       have hfw := fun b o (h : b < wr.heap.size) => hb.frozen (p := ⟨b, o, none⟩) h
                       try simp only [putS, List.foldl, put_lit, List.set]
                       go_simp
                       first
                         | exact ⟨rfl, Below.refl _ _⟩
                         | exact Below.refl _ _
                         | exact rfl
                     (conv => arg 9; simp only [put_lit, put_lit_none, List.set])))
                refine wpLex_nil ?_
                intro w9 b9 d9 hd9 hC9 ho9
                obtain ⟨u9, rfl, hb9, hk9⟩ := genC_end hC9 hd9 ho9
                clear hC9 ho9 hd9 d9 hk9
                simp only [putS, List.foldl, put_lit, List.set]
                go_wp2_with fail
                go_meet
                case rel => exact ⟨_, rfl, hb9⟩
              · refine wp_region_lex [40, 42] (GenC wr.heap.size wr (fourPs 2)) (genC_looks (by rfl)) (by kernel_rfl) (by kernel_rfl) (by kernel_rfl) (genC_start _ start_four) ?_
                repeat (first
                  | (refine wpLex_pass (by rfl) (passes_gen stays_four (by rfl)) ?_; (conv => arg 9; simp only [put_lit, put_lit_none, List.set]))
                  | (refine wpLex_genMake 0 _ 40 [] (Nat.le_refl _) stays_four rfl (by rfl) (by rfl) (by rfl) (by rfl) (by rfl) (by rfl) (by rfl) (by rfl) ?_ ?_
                     · intro u w' hb hk
                       try simp only [putS, List.foldl, put_lit, List.set]
                       go_simp
                       exact makeOk trivial ⟨_, rfl, heap_new _ _⟩ ((Below.refl _ _).alloc (Nat.le_refl _) _)
                     (conv => arg 9; simp only [put_lit, put_lit_none, List.set]))
                  | (refine wpLex_genMake 1 _ 42 [0] (Nat.le_refl _) stays_four rfl (by rfl) (by rfl) (by rfl) (by rfl) (by rfl) (by rfl) (by rfl) (by rfl) ?_ ?_
                     · intro u w' hb hk
                       obtain ⟨g, e0, hz⟩ := (hk 0 (by simp) _ rfl).2
                       have e0' : u 40 = _ := e0
                       try simp only [putS, List.foldl, put_lit, List.set]
                       rw [e0']
                       go_simp
                       exact makeOk trivial ⟨_, rfl, hz⟩ (Below.refl _ _)
                     (conv => arg 9; simp only [put_lit, put_lit_none, List.set]))
                  | (refine wpLex_genUse [1] (Nat.le_refl _) stays_four (by rfl) (by rfl) (by rfl) ?_
                     apply Exists.intro
                     refine ⟨?_, ?_⟩
                     · intro u w' hb hk
                       obtain ⟨g, e0, hz⟩ := (hk 1 (by simp) _ rfl).2
                       have e0' : u 42 = _ := e0
                       have hzc := cell_of_row _ _ 2 _ _ _ hz
                       have hzf := frozen_of_row _ _ 2 _ _ hz
                       try simp only [putS, List.foldl, put_lit, List.set]
                       rw [e0']
                       go_simp
                       first
                         | exact ⟨rfl, Below.refl _ _⟩
                         | exact Below.refl _ _
                     (conv => arg 9; simp only [put_lit, put_lit_none, List.set]))
                  | (refine wpLex_genUse [] (Nat.le_refl _) stays_four (by rfl) (by rfl) (by rfl) ?_
                     apply Exists.intro
                     refine ⟨?_, ?_⟩
                     · intro u w' hb _
                       have hsz := hb.size
                       try simp at hsz
                       have hcw := fun b o (h : b < wr.heap.size) => hb.cell (p := ⟨b, o, none⟩) h
                       have hfw := fun b o (h : b < wr.heap.size) => hb.frozen (p := ⟨b, o, none⟩) h
                       try simp only [putS, List.foldl, put_lit, List.set]
                       go_simp
                       first
                         | exact ⟨rfl, Below.refl _ _⟩
                         | exact Below.refl _ _
                         | exact rfl
                     (conv => arg 9; simp only [put_lit, put_lit_none, List.set])))
                refine wpLex_nil ?_
                intro w9 b9 d9 hd9 hC9 ho9
                obtain ⟨u9, rfl, hb9, hk9⟩ := genC_end hC9 hd9 ho9
                clear hC9 ho9 hd9 d9 hk9
                simp only [putS, List.foldl, put_lit, List.set]
                go_wp2_with fail
                go_meet
                case rel => exact ⟨_, rfl, hb9⟩
              · refine wp_region_lex [40, 42] (GenC wr.heap.size wr (fourPs 3)) (genC_looks (by rfl)) (by kernel_rfl) (by kernel_rfl) (by kernel_rfl) (genC_start _ start_four) ?_
                repeat (first
                  | (refine wpLex_pass (by rfl) (passes_gen stays_four (by rfl)) ?_; (conv => arg 9; simp only [put_lit, put_lit_none, List.set]))
                  | (refine wpLex_genMake 0 _ 40 [] (Nat.le_refl _) stays_four rfl (by rfl) (by rfl) (by rfl) (by rfl) (by rfl) (by rfl) (by rfl) (by rfl) ?_ ?_
                     · intro u w' hb hk
                       try simp only [putS, List.foldl, put_lit, List.set]
                       go_simp
                       exact makeOk trivial ⟨_, rfl, heap_new _ _⟩ ((Below.refl _ _).alloc (Nat.le_refl _) _)
                     (conv => arg 9; simp only [put_lit, put_lit_none, List.set]))
                  | (refine wpLex_genMake 1 _ 42 [0] (Nat.le_refl _) stays_four rfl (by rfl) (by rfl) (by rfl) (by rfl) (by rfl) (by rfl) (by rfl) (by rfl) ?_ ?_
                     · intro u w' hb hk
                       obtain ⟨g, e0, hz⟩ := (hk 0 (by simp) _ rfl).2
                       have e0' : u 40 = _ := e0
                       try simp only [putS, List.foldl, put_lit, List.set]
                       rw [e0']
                       go_simp
                       exact makeOk trivial ⟨_, rfl, hz⟩ (Below.refl _ _)
                     (conv => arg 9; simp only [put_lit, put_lit_none, List.set]))
                  | (refine wpLex_genUse [1] (Nat.le_refl _) stays_four (by rfl) (by rfl) (by rfl) ?_
                     apply Exists.intro
                     refine ⟨?_, ?_⟩
                     · intro u w' hb hk
                       obtain ⟨g, e0, hz⟩ := (hk 1 (by simp) _ rfl).2
                       have e0' : u 42 = _ := e0
                       have hzc := cell_of_row _ _ 3 _ _ _ hz
                       have hzf := frozen_of_row _ _ 3 _ _ hz
                       try simp only [putS, List.foldl, put_lit, List.set]
                       rw [e0']
                       go_simp
                       first
                         | exact ⟨rfl, Below.refl _ _⟩
                         | exact Below.refl _ _
                     (conv => arg 9; simp only [put_lit, put_lit_none, List.set]))
                  | (refine wpLex_genUse [] (Nat.le_refl _) stays_four (by rfl) (by rfl) (by rfl) ?_
                     apply Exists.intro
                     refine ⟨?_, ?_⟩
                     · intro u w' hb _
                       have hsz := hb.size
                       try simp at hsz
                       have hcw := fun b o (h : b < wr.heap.size) => hb.cell (p := ⟨b, o, none⟩) h
                       have hfw := fun b o (h : b < wr.heap.size) => hb.frozen (p := ⟨b, o, none⟩) h
                       try simp only [putS, List.foldl, put_lit, List.set]
                       go_simp
                       first
                         | exact ⟨rfl, Below.refl _ _⟩
                         | exact Below.refl _ _
                         | exact rfl
                     (conv => arg 9; simp only [put_lit, put_lit_none, List.set])))
                refine wpLex_nil ?_
                intro w9 b9 d9 hd9 hC9 ho9
                obtain ⟨u9, rfl, hb9, hk9⟩ := genC_end hC9 hd9 ho9
                clear hC9 ho9 hd9 d9 hk9
                simp only [putS, List.foldl, put_lit, List.set]
                go_wp2_with fail
                go_meet
                case rel => exact ⟨_, rfl, hb9⟩
            case rest =>
              obtain ⟨pg, rfl, hbc⟩ := hcut
              obtain ⟨wa, rfl⟩ : ∃ wa : World, wa = wc := ⟨_, rfl⟩
              have AB := Lib.hid hbc
              have has := hbc.size
              clear hbc x0 xf hcp
              have HXA := Lib.hid ((AB.out.block _ hxv).trans HXV.out)
              have x0 := fun j => cell_of_row _ _ j _ _ _ HXA.out
              have xf := fun j => frozen_of_row _ _ j _ _ HXA.out
              have hxa := heap_lt HXA.out
              have HMA := Lib.hid (fun W => HMY.out pg W)
              have HMB := Lib.hid (fun W => HMZ.out pg W)
              obtain ⟨ok1, hok1⟩ : ∃ b, midOk ws.length ⟨on2, of2, ot2⟩ pg acc = b := ⟨_, rfl⟩
              obtain ⟨ok2, hok2⟩ : ∃ b, midOk ws.length ⟨on1, of1, ot1⟩ pg acc = b := ⟨_, rfl⟩
              have HTO := Lib.hid (show ok1 = true → ok2 = true → transOk ws.length ⟨on1, of1, ot1⟩ ⟨on2, of2, ot2⟩ pg acc = true from fun h1 h2 => by
                rw [transOk_all, hok1, h1, Bool.true_and]
                rw [h2, midOk_all] at hok2
                simp only [Bool.and_eq_true] at hok2
                exact hok2.1.1.2)
              rw [hok1] at HMA
              rw [hok2] at HMB
              clear hok1 hok2
              go_upto_region 10 with fail
             
              go_cut [60] from 60 to 60 (fun v W => v = .bool (!(ok1 && ok2)) ∧ Below wa.heap.size wa W)
              case first =>
                cases ok1
                · go_wp2_with fail
                  refine Calls.mono (HMA.out _) ?_
                  rintro e w2 ⟨rfl, hb2⟩
                  have hs2 := hb2.size
                  try simp at hs2
                  have HB2 := Lib.hid hb2
                  clear hb2
                  go_wp2_with fail
                  go_meet
                  case rel => exact ⟨rfl, HB2.out⟩
                · go_wp2_with fail
                  refine Calls.mono (HMA.out _) ?_
                  rintro e w2 ⟨rfl, hb2⟩
                  have hs2 := hb2.size
                  try simp at hs2
                  have hc2_0 := fun o => (bcell hb2).1 (w.heap.size) o (by first | omega | (simp; done) | (simp; omega))
                  have hf2_0 := fun o => (bcell hb2).2.1 (w.heap.size) o (by first | omega | (simp; done) | (simp; omega))
                  have hz2_0 := (bcell hb2).2.2 (w.heap.size) (by first | omega | (simp; done) | (simp; omega))
                  have HB2 := Lib.hid hb2
                  clear hb2
                  go_wp2_with fail
                  refine Calls.mono (HMB.out _) ?_
                  rintro e w3 ⟨rfl, hb3⟩
                  have hs3 := hb3.size
                  try simp at hs3
                  have HB3 := Lib.hid hb3
                  clear hb3
                  go_wp2_with fail
                  go_meet
                  case rel => exact ⟨by cases ok2 <;> rfl, (by repeat' (first | (with_reducible exact Below.refl _ _) | (with_reducible (refine Below.setCell ?_ ?_ _)) | (with_reducible (refine Below.alloc ?_ ?_ _)) | (with_reducible (refine Below.drew ?_)) | (with_reducible (refine below_via ?_ HB3.out ?_)) | (with_reducible (refine below_via ?_ HB2.out ?_)) | omega | (simp; done) | (simp; omega)))⟩
              case rest =>
                obtain ⟨rfl, hbc⟩ := hcut
                obtain ⟨wb, rfl⟩ : ∃ wb : World, wb = wc := ⟨_, rfl⟩
                have BB := Lib.hid (show Below wr.heap.size wr wb from (by repeat' (first | (with_reducible exact Below.refl _ _) | (with_reducible (refine Below.setCell ?_ ?_ _)) | (with_reducible (refine Below.alloc ?_ ?_ _)) | (with_reducible (refine Below.drew ?_)) | (with_reducible (refine below_via ?_ hbc ?_)) | (with_reducible (refine below_via ?_ AB.out ?_)) | omega | (simp; done) | (simp; omega))))
                have hbs := hbc.size
                clear hbc x0 xf HMA HMB
                have HXB := Lib.hid ((BB.out.block _ hxv).trans HXV.out)
                have x0 := fun j => cell_of_row _ _ j _ _ _ HXB.out
                have xf := fun j => frozen_of_row _ _ j _ _ HXB.out
                have hxb := heap_lt HXB.out
                by_cases hok : (ok1 && ok2) = true
                · have hok' := hok
                  rw [Bool.and_eq_true] at hok'
                  have HOK := Lib.hid (HTO.out hok'.1 hok'.2)
                  clear hok' HTO
                  rw [hok]
                  clear hok
                  have HBB := Lib.hid (show Below w.heap.size w wb from (by repeat' (first | (with_reducible exact Below.refl _ _) | (with_reducible (refine Below.setCell ?_ ?_ _)) | (with_reducible (refine Below.alloc ?_ ?_ _)) | (with_reducible (refine Below.drew ?_)) | (with_reducible (refine below_via ?_ BB.out ?_)) | (with_reducible (refine below_via ?_ HBR.out ?_)) | omega | (simp; done) | (simp; omega))))
                  have HWK := Lib.hid (fun W (hb : Below wb.heap.size wb W) => Trans_any ma mc ws ⟨on1, of1, ot1⟩ ⟨on2, of2, ot2⟩ pg acc W ((HM.out.below HBB.out).below hb))
                  have HRW := Lib.hid (fun W (hb : Below wb.heap.size wb W) => rTrans_any ma mc ws ⟨on1, of1, ot1⟩ ⟨on2, of2, ot2⟩ pg acc W ((HM.out.below HBB.out).below hb) HOK.out)
                  rw [show transEr ws.length ⟨on1, of1, ot1⟩ ⟨on2, of2, ot2⟩ pg acc = 0 by unfold transEr; rw [HOK.out]; rfl] at HWK
                  have hrl := transRes_len ws ⟨on1, of1, ot1⟩ ⟨on2, of2, ot2⟩ pg acc
                  generalize transRes ws ⟨on1, of1, ot1⟩ ⟨on2, of2, ot2⟩ pg acc = res at *
                  obtain ⟨⟨l0, l1, l2, l3, l4, l5, l6, l7, l8⟩, ⟨m0, m1, m2, m3, m4⟩, rd⟩ := res
                  unfold WPost at HWK HRW
                  dsimp only [Ht.cells, Ft.cells, Rt.cells] at HWK HRW hrl
                 
                  go_wp2_with fail
                  refine Calls.mono (HWK.out _ (Below.refl _ _)) ?_
                  rintro e w4 ⟨R4, c4, rfl, ho4, hb4⟩
                  have hs4 := hb4.size
                  try simp at hs4
                  have HB4 := Lib.hid hb4
                  clear hb4
                  have Hho4 := Lib.hid ho4
                  clear ho4
                  have HXC := Lib.hid ((HB4.out.block _ hxb).trans HXB.out)
                  clear x0 xf
                 
                  go_upto_region 12 with fail
                  refine name_world ?_
                  intro wd hwd
                  have D8 := Lib.hid (show wd.heap[w4.heap.size]? = some (.cells #[.int .i64 l0, .int .i64 l1, .bool l2, .bool l3, .bool l4, .bool l5, .bool l6, .int .i64 l7, .int .i64 l8] hitT (0, 0)) by rw [hwd]; exact (by repeat (first | (with_reducible assumption) | (exact heap_at _ _ (by simp; done)) | (with_reducible refine heap_old_is _ _ (by (first | omega | (simp; done) | (simp; omega))) ?_) | (with_reducible refine heap_far_is (by (first | omega | (simp; done) | (simp; omega))) ?_))))
                  have D9 := Lib.hid (show wd.heap[w4.heap.size + 1]? = some (.cells #[.int .i64 m0, .int .i64 m1, .int .i64 m2, .bool m3, .int .i64 m4] faultT (0, 0)) by rw [hwd]; exact (by repeat (first | (with_reducible assumption) | (exact heap_at _ _ (by simp; done)) | (with_reducible refine heap_old_is _ _ (by (first | omega | (simp; done) | (simp; omega))) ?_) | (with_reducible refine heap_far_is (by (first | omega | (simp; done) | (simp; omega))) ?_))))
                  have DX := Lib.hid (show wd.heap[w.heap.size]? = some (.cells #[.slice ma ws.length mc, .int .i64 frame, .slice (some ⟨bp, op, none⟩) pages.length pc, .bool on1, .int .i64 of1, .int .i64 ot1, .bool on2, .int .i64 of2, .int .i64 ot2, .int .i64 ac] 57 (0, 0)) by rw [hwd]; exact (by repeat (first | (with_reducible assumption) | (with_reducible exact HXC.out) | (exact heap_at _ _ (by simp; done)) | (with_reducible refine heap_old_is _ _ (by (first | omega | (simp; done) | (simp; omega))) ?_) | (with_reducible refine heap_far_is (by (first | omega | (simp; done) | (simp; omega))) ?_))))
                  have DO := Lib.hid (show Own wd wb.heap.size intT 1 intCells rd R4 c4 by rw [hwd]; exact (by repeat (first | (with_reducible exact Own.mono Hho4.out (by (first | omega | (simp; done) | (simp; omega)))) | (with_reducible refine Own.set_far ?_ (by (first | omega | (simp; done) | (simp; omega))) _) | (with_reducible refine Own.alloc ?_ _) | (with_reducible refine Own.drew ?_))))
                  have DB := Lib.hid (show Below wb.heap.size wb wd by rw [hwd]; repeat' (first | (with_reducible exact Below.refl _ _) | (with_reducible (refine Below.setCell ?_ ?_ _)) | (with_reducible (refine Below.alloc ?_ ?_ _)) | (with_reducible (refine Below.drew ?_)) | (with_reducible (refine below_via ?_ HB4.out ?_)) | omega | (simp; done) | (simp; omega)))
                  have hds : w4.heap.size + 2 ≤ wd.heap.size := by rw [hwd]; simp
                  clear hwd Hho4 HB4
                  have x0 := fun j => cell_of_row _ _ j _ _ _ DX.out
                  have xf := fun j => frozen_of_row _ _ j _ _ DX.out
                  have hxd := heap_lt DX.out
                  go_wp2_with fail
                  refine Calls.mono (HRW.out _ DB.out) ?_
                  rintro e w5 ⟨R5, c5, rfl, ho5, hb5⟩
                  have hs5 := hb5.size
                  try simp at hs5
                  have HB5 := Lib.hid hb5
                  clear hb5
                  have Hho5 := Lib.hid ho5
                  clear ho5
                  have E8 := Lib.hid ((HB5.out.block _ (by omega)).trans D8.out)
                  have E9 := Lib.hid ((HB5.out.block _ (by omega)).trans D9.out)
                  have EO := Lib.hid (DO.out.below HB5.out (Nat.le_refl _))
                  clear x0 xf
                 
                  go_upto_region 13 with fail
                  refine name_world ?_
                  intro we hwe
                  have F8 := Lib.hid (show we.heap[w4.heap.size]? = some (.cells #[.int .i64 l0, .int .i64 l1, .bool l2, .bool l3, .bool l4, .bool l5, .bool l6, .int .i64 l7, .int .i64 l8] hitT (0, 0)) by rw [hwe]; exact (by repeat (first | (with_reducible exact E8.out) | (with_reducible refine heap_old_is _ _ (by (first | omega | (simp; done) | (simp; omega))) ?_) | (with_reducible refine heap_far_is (by (first | omega | (simp; done) | (simp; omega))) ?_))))
                  have F9 := Lib.hid (show we.heap[w4.heap.size + 1]? = some (.cells #[.int .i64 m0, .int .i64 m1, .int .i64 m2, .bool m3, .int .i64 m4] faultT (0, 0)) by rw [hwe]; exact (by repeat (first | (with_reducible exact E9.out) | (with_reducible refine heap_old_is _ _ (by (first | omega | (simp; done) | (simp; omega))) ?_) | (with_reducible refine heap_far_is (by (first | omega | (simp; done) | (simp; omega))) ?_))))
                  have G8 := Lib.hid (show we.heap[w5.heap.size]? = some (.cells #[.int .i64 l0, .int .i64 l1, .bool l2, .bool l3, .bool l4, .bool l5, .bool l6, .int .i64 l7, .int .i64 l8] hitT (0, 0)) by rw [hwe]; exact (by repeat (first | (with_reducible assumption) | (exact heap_at _ _ (by simp; done)) | (with_reducible refine heap_old_is _ _ (by (first | omega | (simp; done) | (simp; omega))) ?_) | (with_reducible refine heap_far_is (by (first | omega | (simp; done) | (simp; omega))) ?_))))
                  have G9 := Lib.hid (show we.heap[w5.heap.size + 1]? = some (.cells #[.int .i64 m0, .int .i64 m1, .int .i64 m2, .bool m3, .int .i64 m4] faultT (0, 0)) by rw [hwe]; exact (by repeat (first | (with_reducible assumption) | (exact heap_at _ _ (by simp; done)) | (with_reducible refine heap_old_is _ _ (by (first | omega | (simp; done) | (simp; omega))) ?_) | (with_reducible refine heap_far_is (by (first | omega | (simp; done) | (simp; omega))) ?_))))
                  have FO := Lib.hid (show Own we wb.heap.size intT 1 intCells rd R4 c4 by rw [hwe]; exact (by repeat (first | (with_reducible exact Own.mono EO.out (by (first | omega | (simp; done) | (simp; omega)))) | (with_reducible refine Own.set_far ?_ (by (first | omega | (simp; done) | (simp; omega))) _) | (with_reducible refine Own.alloc ?_ _) | (with_reducible refine Own.drew ?_))))
                  have GO := Lib.hid (show Own we wd.heap.size intT 1 intCells rd R5 c5 by rw [hwe]; exact (by repeat (first | (with_reducible exact Own.mono Hho5.out (by (first | omega | (simp; done) | (simp; omega)))) | (with_reducible refine Own.set_far ?_ (by (first | omega | (simp; done) | (simp; omega))) _) | (with_reducible refine Own.alloc ?_ _) | (with_reducible refine Own.drew ?_))))
                  have FB := Lib.hid (show Below wd.heap.size wd we by rw [hwe]; repeat' (first | (with_reducible exact Below.refl _ _) | (with_reducible (refine Below.setCell ?_ ?_ _)) | (with_reducible (refine Below.alloc ?_ ?_ _)) | (with_reducible (refine Below.drew ?_)) | (with_reducible (refine below_via ?_ HB5.out ?_)) | omega | (simp; done) | (simp; omega)))
                  clear hwe Hho5 HB5
                  have FBB := Lib.hid (below_via (below_via BB.out DB.out BB.out.size) FB.out (Nat.le_trans BB.out.size DB.out.size))
                  have HEQ := Lib.hid (fun W (hb : Below we.heap.size we W) => EqNumbers_any R4 R5 c4 c5 rd rd W (by omega) (by omega) ((FO.out.below hb (Nat.le_refl _)).at_ int_len) ((GO.out.below hb (Nat.le_refl _)).at_ int_len))
                  rw [show decide (rd = rd) = true by simp] at HEQ
                  have e1 := fun j => cell_of_row _ _ j _ _ _ F8.out
                  have e2 := fun j => cell_of_row _ _ j _ _ _ F9.out
                  have e3 := fun j => cell_of_row _ _ j _ _ _ G8.out
                  have e4 := fun j => cell_of_row _ _ j _ _ _ G9.out
                  have hl1 := heap_lt F8.out
                  have hl2 := heap_lt F9.out
                  have hl3 := heap_lt G8.out
                  have hl4 := heap_lt G9.out
                 
                  go_wp2_with (go_at_call 30; refine (HNU.out _ _).mono ?_; rintro e w' ⟨rfl, rfl⟩)
                 
                  refine Calls.mono (HEQ.out _ (Below.refl _ _)) ?_
                  rintro e w6 ⟨rfl, hb6⟩
                  have hs6 := hb6.size
                  try simp at hs6
                  have HB6 := Lib.hid hb6
                  clear hb6
                  have HB9 := Lib.hid (below_via FBB.out HB6.out FBB.out.size)
                 
                  go_wp2_with fail
                  go_roundg (4 - (s + 1))
                  case rel => exact ⟨s + 1, by omega, rfl, by go_num, below_via HBV.out HB9.out HBV.out.size⟩
                  case measure => have := HGS.out; omega
                · have hokf : (ok1 && ok2) = false := by simpa using hok
                  rw [hokf]
                  clear hok hokf HTO
                 
                  go_wp2_with fail
                  go_roundg (4 - (s + 1))
                  case rel => exact ⟨s + 1, by omega, rfl, by go_num, below_via HBV.out BB.out HBV.out.size⟩
                  case measure => have := HGS.out; omega
          · have hsi : ¬ (s : Int) < 4 := by omega
           
            go_wp2
            go_roundg (10 - (k + 1))
            case rel => exact ⟨k + 1, by omega, by omega, rfl, by go_num, (by repeat' (first | (with_reducible exact Below.refl _ _) | (with_reducible (refine Below.setCell ?_ ?_ _)) | (with_reducible (refine Below.alloc ?_ ?_ _)) | (with_reducible (refine Below.drew ?_)) | (with_reducible (refine below_via ?_ HBV.out ?_)) | (with_reducible (refine below_via ?_ HBW.out ?_)) | omega | (simp; done) | (simp; omega)))⟩
            case measure => have := HGK.out; omega
      ·
        by_cases hka : k < pages.length
        · obtain rfl : k = 10 := by omega
          have hki : (10 : Int) < pages.length := by omega
          go_wp2_with fail
          refine Calls.mono (HWA.out _) ?_
          rintro e w5 ⟨rfl, hb5⟩
          have hs5 := hb5.size
          try simp at hs5
          have HB5 := Lib.hid hb5
          clear hb5
          go_wp2
          go_ret
          exact ⟨rfl, (by repeat' (first | (with_reducible exact Below.refl _ _) | (with_reducible (refine Below.setCell ?_ ?_ _)) | (with_reducible (refine Below.alloc ?_ ?_ _)) | (with_reducible (refine Below.drew ?_)) | (with_reducible (refine below_via ?_ HB5.out ?_)) | (with_reducible (refine below_via ?_ HBW.out ?_)) | (with_reducible (refine below_via ?_ HB.out ?_)) | omega | (simp; done) | (simp; omega)))⟩
        · have hki : ¬ (k : Int) < pages.length := by omega
          go_wp2_with fail
          refine Calls.mono (HWA.out _) ?_
          rintro e w5 ⟨rfl, hb5⟩
          have hs5 := hb5.size
          try simp at hs5
          have HB5 := Lib.hid hb5
          clear hb5
          go_wp2
          go_ret
          exact ⟨rfl, (by repeat' (first | (with_reducible exact Below.refl _ _) | (with_reducible (refine Below.setCell ?_ ?_ _)) | (with_reducible (refine Below.alloc ?_ ?_ _)) | (with_reducible (refine Below.drew ?_)) | (with_reducible (refine below_via ?_ HB5.out ?_)) | (with_reducible (refine below_via ?_ HBW.out ?_)) | (with_reducible (refine below_via ?_ HB.out ?_)) | omega | (simp; done) | (simp; omega)))⟩

set_option maxRecDepth 100000 in
theorem nestReads_walk (q : AskN) (w : World) (hq : AskWAt w q.a) :
    Calls Try.prog 9 #[.agg q.cells.toArray] w fun e w' => e = .returned (.bool true) ∧ Below w.heap.size w w' := by
  have HBY := Lib.hid (fun W (hb : Below w.heap.size w W) => nestBy_walk q 0 W (hq.below hb))
  clear hq
  obtain ⟨⟨ma, mc, ws, frame, pa, pc, pages⟩, ⟨on1, of1, ot1⟩, ⟨on2, of2, ot2⟩, ac⟩ := q
  dsimp only [AskN.cells] at *
  go_enter Try.func9, Try.ntmps9
  go_wp2_with fail
  refine Calls.mono (HBY.out _ (by repeat' (first | (with_reducible exact Below.refl _ _) | (with_reducible (refine Below.setCell ?_ ?_ _)) | (with_reducible (refine Below.alloc ?_ ?_ _)) | (with_reducible (refine Below.drew ?_)) | omega | (simp; done) | (simp; omega)))) ?_
  rintro e w1 ⟨rfl, hb1⟩
  have hs1 := hb1.size
  try simp at hs1
  have HB1 := Lib.hid hb1
  clear hb1
  go_wp2
  go_ret
  exact ⟨rfl, (by repeat' (first | (with_reducible exact Below.refl _ _) | (with_reducible (refine Below.setCell ?_ ?_ _)) | (with_reducible (refine Below.alloc ?_ ?_ _)) | (with_reducible (refine Below.drew ?_)) | (with_reducible (refine below_via ?_ HB1.out ?_)) | omega | (simp; done) | (simp; omega)))⟩

set_option maxRecDepth 100000 in
theorem nestWrites_walk (q : AskN) (w : World) (hq : AskWAt w q.a) :
    Calls Try.prog 10 #[.agg q.cells.toArray] w fun e w' => e = .returned (.bool true) ∧ Below w.heap.size w w' := by
  have HBY := Lib.hid (fun W (hb : Below w.heap.size w W) => nestBy_walk q 1 W (hq.below hb))
  clear hq
  obtain ⟨⟨ma, mc, ws, frame, pa, pc, pages⟩, ⟨on1, of1, ot1⟩, ⟨on2, of2, ot2⟩, ac⟩ := q
  dsimp only [AskN.cells] at *
  go_enter Try.func10, Try.ntmps10
  go_wp2_with fail
  refine Calls.mono (HBY.out _ (by repeat' (first | (with_reducible exact Below.refl _ _) | (with_reducible (refine Below.setCell ?_ ?_ _)) | (with_reducible (refine Below.alloc ?_ ?_ _)) | (with_reducible (refine Below.drew ?_)) | omega | (simp; done) | (simp; omega)))) ?_
  rintro e w1 ⟨rfl, hb1⟩
  have hs1 := hb1.size
  try simp at hs1
  have HB1 := Lib.hid hb1
  clear hb1
  go_wp2
  go_ret
  exact ⟨rfl, (by repeat' (first | (with_reducible exact Below.refl _ _) | (with_reducible (refine Below.setCell ?_ ?_ _)) | (with_reducible (refine Below.alloc ?_ ?_ _)) | (with_reducible (refine Below.drew ?_)) | (with_reducible (refine below_via ?_ HB1.out ?_)) | omega | (simp; done) | (simp; omega)))⟩

set_option maxRecDepth 100000 in
theorem nestFetches_walk (q : AskN) (w : World) (hq : AskWAt w q.a) :
    Calls Try.prog 11 #[.agg q.cells.toArray] w fun e w' => e = .returned (.bool true) ∧ Below w.heap.size w w' := by
  have HBY := Lib.hid (fun W (hb : Below w.heap.size w W) => nestBy_walk q 2 W (hq.below hb))
  clear hq
  obtain ⟨⟨ma, mc, ws, frame, pa, pc, pages⟩, ⟨on1, of1, ot1⟩, ⟨on2, of2, ot2⟩, ac⟩ := q
  dsimp only [AskN.cells] at *
  go_enter Try.func11, Try.ntmps11
  go_wp2_with fail
  refine Calls.mono (HBY.out _ (by repeat' (first | (with_reducible exact Below.refl _ _) | (with_reducible (refine Below.setCell ?_ ?_ _)) | (with_reducible (refine Below.alloc ?_ ?_ _)) | (with_reducible (refine Below.drew ?_)) | omega | (simp; done) | (simp; omega)))) ?_
  rintro e w1 ⟨rfl, hb1⟩
  have hs1 := hb1.size
  try simp at hs1
  have HB1 := Lib.hid hb1
  clear hb1
  go_wp2
  go_ret
  exact ⟨rfl, (by repeat' (first | (with_reducible exact Below.refl _ _) | (with_reducible (refine Below.setCell ?_ ?_ _)) | (with_reducible (refine Below.alloc ?_ ?_ _)) | (with_reducible (refine Below.drew ?_)) | (with_reducible (refine below_via ?_ HB1.out ?_)) | omega | (simp; done) | (simp; omega)))⟩

end Go.Proofs.Ytddbndmbcdeggaa
