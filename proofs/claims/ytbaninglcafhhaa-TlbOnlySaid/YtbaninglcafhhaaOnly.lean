/-
  'TlbOnly' returns true, and of what was there nothing has turned. Conditions: the argument reads as such.
-/
import Derived.Test.YtbaninglcafhhaaOnlyP
import Derived.Test.YtbaninglcafhhaaTwo
namespace Go.Proofs.Ytbaninglcafhhaa
open Go.RowKit

def ApartR (A A2 : Option Addr) : Prop := ∀ p q : Addr, A = some p → A2 = some q → p.block ≠ q.block
/-- What is known at the loop's head. -/
structure OnlyAt (w1 : World) (l : List ActT) (k : Nat) (v : Value) (wr : World) : Prop where
  at_ : ∃ (es : List Ent) (A : Option Addr) (c : Nat) (B : Option Addr) (d : Nat) (A2 : Option Addr) (c2 : Nat), tlbOk es [] = true ∧ v = .slice A2 es.length c2 ∧
    wr.heap[w1.heap.size]? = some (.cells #[.slice A es.length c, .slice B 0 d] tlbT (0, 0)) ∧ Own wr (w1.heap.size + 1) entT 14 Ent.cells es A c ∧ Own wr (w1.heap.size + 1) invT 4 Inv.cells [] B d ∧ Own wr (w1.heap.size + 1) entT 14 Ent.cells es A2 c2 ∧ ApartR A A2
  below : Below w1.heap.size w1 wr

set_option maxRecDepth 100000 in
set_option maxHeartbeats 16000000 in
theorem tlbOnly_walk (q : ScrT) (w : World) (hq : ScrAt w q) :
    Calls Try.prog 5 #[.agg q.cells.toArray] w fun e w' => e = .returned (.bool true) ∧ Below w.heap.size w w' := by
  have HHV := Lib.hid (fun W (hb : Below w.heap.size w W) => heavy9_any q W (hq.below hb))
  have HL := Lib.hid hq.lat
  have hll := hq.llen
  clear hq
  obtain ⟨⟨ea, ec, es0, da, dc, ds0⟩, la, lc, l⟩ := q
  dsimp only [ScrT.cells] at *
  have HWA := Lib.hid (fun W => wakes9_any W)
  have HNU := Lib.hid (fun (n : Int) W => num9_any n W)
  obtain ⟨i0, hi0, hz0, hz1', hz2⟩ := info_parts ent_info
  have HI0 := Lib.hid hi0
  have HZ0 := Lib.hid hz0
  have HZ1 := Lib.hid hz1'
  have HZ2 := Lib.hid hz2
  clear hi0 hz0 hz1' hz2
  go_enter Try.func5, Try.ntmps5
  go_wp2_with fail
  refine (HHV.out _ (by repeat' (first | (with_reducible exact Below.refl _ _) | (with_reducible (refine Below.setCell ?_ ?_ _)) | (with_reducible (refine Below.alloc ?_ ?_ _)) | (with_reducible (refine Below.drew ?_)) | omega | (simp; done) | (simp; omega)))).mono ?_
  rintro e w1 ⟨b, hlight, rfl, hb1⟩
  clear hlight HHV
  have hs1 := hb1.size
  simp at hs1
  have hc1 := fun o => (bcell hb1).1 w.heap.size o (by simp)
  have hf1 := fun o => (bcell hb1).2.1 w.heap.size o (by simp)
  have hz1 : w.heap.size < w1.heap.size := by omega
  have HB1 := Lib.hid hb1
  clear hb1
  cases b
  case true =>
    go_wp2
    go_ret
    exact ⟨rfl, (by repeat' (first | (with_reducible exact Below.refl _ _) | (with_reducible (refine Below.setCell ?_ ?_ _)) | (with_reducible (refine Below.alloc ?_ ?_ _)) | (with_reducible (refine Below.drew ?_)) | (with_reducible (refine below_via ?_ HB1.out ?_)) | omega | (simp; done) | (simp; omega)))⟩
  case false =>
    go_wp2_with fail
    clear hc1 hf1
    have HX := Lib.hid (show w1.heap[w.heap.size]? = some (.cells #[.slice ea es0.length ec, .slice da ds0.length dc, .slice la l.length lc] scrT (0, 0)) from (by repeat (first | (with_reducible assumption) | (with_reducible refine heap_below_is HB1.out (by (first | omega | (simp; done) | (simp; omega))) ?_) | (exact heap_at _ _ (by simp; done)) | (with_reducible refine heap_old_is _ _ (by (first | omega | (simp; done) | (simp; omega))) ?_) | (with_reducible refine heap_far_is (by (first | omega | (simp; done) | (simp; omega))) ?_))))
    have HB := Lib.hid ((by repeat' (first | (with_reducible exact Below.refl _ _) | (with_reducible (refine Below.setCell ?_ ?_ _)) | (with_reducible (refine Below.alloc ?_ ?_ _)) | (with_reducible (refine Below.drew ?_)) | (with_reducible (refine below_via ?_ HB1.out ?_)) | omega | (simp; done) | (simp; omega))) : Below w.heap.size w w1)
    go_loopg [4, 5] 40 (fun gg v i wr => ∃ k : Nat, k ≤ l.length ∧ k ≤ 40 ∧ gg = 40 - k ∧ i = .int .i64 k ∧ OnlyAt w1 l k v wr)
    case atStart => exact ⟨0, Nat.zero_le _, Nat.zero_le _, rfl, rfl, ⟨[], none, 0, none, 0, none, 0, wake_tlb, rfl, heap_new _ _, World.ownsRow_nil _ _ _ _, World.ownsRow_nil _ _ _ _, World.ownsRow_nil _ _ _ _, fun _ _ h => by cases h⟩, (Below.refl _ _).alloc (Nat.le_refl _) _⟩
    case round =>
      obtain ⟨k, hk, hk40, hgk, rfl, ⟨es, A, c, B, d, A2, c2, htl, rfl, hxt, hoe, hod, how, hap⟩, hbw⟩ := hrel
      have HTL := Lib.hid htl
      have HXT := Lib.hid hxt
      have HOE := Lib.hid hoe
      have HOD := Lib.hid hod
      have HOW := Lib.hid how
      have HAP := Lib.hid hap
      have HBW := Lib.hid hbw
      have HGK := Lib.hid hgk
      have hsw := hbw.size
      have HXR := Lib.hid ((hbw.block _ hz1).trans HX.out)
      obtain ⟨j1, _, _, _⟩ := tlbOk_ents htl
      clear htl hxt hoe hod how hap hbw hgk
      have e0 := cell_of_row _ _ 2 _ _ _ HXR.out
      have ef := fun j => frozen_of_row _ _ j _ _ HXR.out
      have hxl := heap_lt HXR.out
      have hxt := heap_lt HXT.out
      by_cases hlt : k < l.length ∧ k < 40
      · obtain ⟨hlt, hlt12⟩ := hlt
        have hki : (k : Int) < l.length := by omega
        have q12 : decide ((k : Int) < 40) = true := by simp; omega
        have HBR := Lib.hid ((by repeat' (first | (with_reducible exact Below.refl _ _) | (with_reducible (refine Below.setCell ?_ ?_ _)) | (with_reducible (refine Below.alloc ?_ ?_ _)) | (with_reducible (refine Below.drew ?_)) | (with_reducible (refine below_via ?_ HBW.out ?_)) | (with_reducible (refine below_via ?_ HB.out ?_)) | omega | (simp; done) | (simp; omega))) : Below w.heap.size w wr)
        obtain ⟨be, oe, rfl, hbe, hce⟩ := at_cells HL.out HBR.out hlt
        obtain ⟨a, ha⟩ : ∃ a, l[k] = a := ⟨_, rfl⟩
        rw [ha] at hce
        clear ha
        obtain ⟨do_, n, vm9, as9, acc9, e⟩ := a
        dsimp only [ActT.cells] at hce
        have hbe2 : be < wr.heap.size := by have := HBR.out.size; omega
        obtain ⟨a0, a1, a2, a3, a4, a5, a6, a7, a8, a9, a10, a11, a12, a13⟩ := e
        dsimp only [Ent.cells] at hce
        have c0 := hce 5 _ rfl
        have c1 := hce 6 _ rfl
        have c2' := hce 7 _ rfl
        have c3 := hce 8 _ rfl
        have c4 := hce 9 _ rfl
        have c5 := hce 10 _ rfl
        have c6 := hce 11 _ rfl
        have c7 := hce 12 _ rfl
        have c8 := hce 13 _ rfl
        have c9 := hce 14 _ rfl
        have c10 := hce 15 _ rfl
        have c11 := hce 16 _ rfl
        have c12 := hce 17 _ rfl
        have c13 := hce 18 _ rfl
        clear hce
        obtain ⟨wo, rfl⟩ : ∃ wo : World, wo = wr := ⟨_, rfl⟩
        go_upto_region 9 with fail
        clear c0 c1 c2' c3 c4 c5 c6 c7 c8 c9 c10 c11 c12 c13
        have hj1 : es.length ≤ 140737488355328 := by omega
        have HTA := Lib.hid (fun W (hb : Below wo.heap.size wo W) => (TlAt.of_own HOE.out HOD.out hj1 (by simp)).below hb)
        have t3 := fun j => cell_of_row _ _ j _ _ _ HXT.out
        have tf3 := fun j => frozen_of_row _ _ j _ _ HXT.out
        cases h2 : entOk ⟨a0, a1, a2, a3, a4, a5, a6, a7, a8, a9, a10, a11, a12, a13⟩
        · have HFN := Lib.hid (fun W (hb : Below wo.heap.size wo W) => Fill_no ⟨A, c, es, B, d, []⟩ ⟨a0, a1, a2, a3, a4, a5, a6, a7, a8, a9, a10, a11, a12, a13⟩ W (HTA.out W hb) (by rw [h2]; simp))
          dsimp only [Tl.cells, Ent.cells, List.length_nil] at HFN
          clear h2
          go_wp2_with fail
          refine Calls.mono (HFN.out _ (by repeat' (first | (with_reducible exact Below.refl _ _) | (with_reducible (refine Below.setCell ?_ ?_ _)) | (with_reducible (refine Below.alloc ?_ ?_ _)) | (with_reducible (refine Below.drew ?_)) | omega | (simp; done) | (simp; omega)))) ?_
          rintro e w2 ⟨rfl, hb2⟩
          have hs2 := hb2.size
          try simp at hs2
          have HB2 := Lib.hid hb2
          clear hb2
          go_wp2_with (go_at_call 28; refine (HNU.out _ _).mono ?_; rintro e w' ⟨rfl, rfl⟩)
          go_roundg (40 - (k + 1))
          case rel => exact ⟨k + 1, by omega, by omega, rfl, by go_num, ⟨es, A, c, B, d, A2, c2, HTL.out, rfl, (by repeat (first | (with_reducible assumption) | (with_reducible exact HXT.out) | (with_reducible refine heap_below_is HB2.out (by (first | omega | (simp; done) | (simp; omega))) ?_) | (exact heap_at _ _ (by simp; done)) | (with_reducible refine heap_old_is _ _ (by (first | omega | (simp; done) | (simp; omega))) ?_) | (with_reducible refine heap_far_is (by (first | omega | (simp; done) | (simp; omega))) ?_))), (by repeat (first | (with_reducible exact Own.mono HOE.out (by (first | omega | (simp; done) | (simp; omega)))) | (with_reducible refine Own.set_far ?_ (by (first | omega | (simp; done) | (simp; omega))) _) | (with_reducible refine Own.alloc ?_ _) | (with_reducible refine Own.drew ?_) | (with_reducible refine Own.below ?_ HB2.out (by (first | omega | (simp; done) | (simp; omega)))))), (by repeat (first | (with_reducible exact Own.mono HOD.out (by (first | omega | (simp; done) | (simp; omega)))) | (with_reducible refine Own.set_far ?_ (by (first | omega | (simp; done) | (simp; omega))) _) | (with_reducible refine Own.alloc ?_ _) | (with_reducible refine Own.drew ?_) | (with_reducible refine Own.below ?_ HB2.out (by (first | omega | (simp; done) | (simp; omega)))))), (by repeat (first | (with_reducible exact Own.mono HOW.out (by (first | omega | (simp; done) | (simp; omega)))) | (with_reducible refine Own.set_far ?_ (by (first | omega | (simp; done) | (simp; omega))) _) | (with_reducible refine Own.alloc ?_ _) | (with_reducible refine Own.drew ?_) | (with_reducible refine Own.below ?_ HB2.out (by (first | omega | (simp; done) | (simp; omega)))))), HAP.out⟩, (by repeat' (first | (with_reducible exact Below.refl _ _) | (with_reducible (refine Below.setCell ?_ ?_ _)) | (with_reducible (refine Below.alloc ?_ ?_ _)) | (with_reducible (refine Below.drew ?_)) | (with_reducible (refine below_via ?_ HB2.out ?_)) | (with_reducible (refine below_via ?_ HBW.out ?_)) | omega | (simp; done) | (simp; omega)))⟩
          case measure => have := HGK.out; omega
        · have HFY := Lib.hid (fun W (hb : Below wo.heap.size wo W) => Fill_yes ⟨A, c, es, B, d, []⟩ ⟨a0, a1, a2, a3, a4, a5, a6, a7, a8, a9, a10, a11, a12, a13⟩ W (HTA.out W hb) HTL.out h2)
          have HTF := Lib.hid (tlbOk_fill HTL.out h2)
          have HOK := Lib.hid h2
          obtain ⟨es', hes⟩ : ∃ x, x = fillE es ⟨a0, a1, a2, a3, a4, a5, a6, a7, a8, a9, a10, a11, a12, a13⟩ := ⟨_, rfl⟩
          dsimp only at HFY
          rw [← hes] at HFY HTF
          have HES := Lib.hid (show es' = if decide (es.length < 8) && !(es.any (entEq ⟨a0, a1, a2, a3, a4, a5, a6, a7, a8, a9, a10, a11, a12, a13⟩)) then es ++ [⟨a0, a1, a2, a3, a4, a5, a6, a7, a8, a9, a10, a11, a12, a13⟩] else es from hes)
          simp only [Tl.cells, Ent.cells, List.length_nil] at HFY
          have hj2 : es'.length ≤ 8 := (tlbOk_ents HTF.out).1
          clear h2 hes
          go_wp2_with fail
          refine Calls.mono (HFY.out _ (by repeat' (first | (with_reducible exact Below.refl _ _) | (with_reducible (refine Below.setCell ?_ ?_ _)) | (with_reducible (refine Below.alloc ?_ ?_ _)) | (with_reducible (refine Below.drew ?_)) | omega | (simp; done) | (simp; omega)))) ?_
          rintro e w2 ⟨A', c', B', d', rfl, ho, hi, hb2⟩
          have hs2 := hb2.size
          try simp at hs2
          have hc2_0 := fun o => (bcell hb2).1 (w1.heap.size) o (by first | omega | (simp; done) | (simp; omega))
          have hf2_0 := fun o => (bcell hb2).2.1 (w1.heap.size) o (by first | omega | (simp; done) | (simp; omega))
          have hz2_0 := (bcell hb2).2.2 (w1.heap.size) (by first | omega | (simp; done) | (simp; omega))
          have hc2_1 := fun o => (bcell hb2).1 (wo.heap.size) o (by first | omega | (simp; done) | (simp; omega))
          have hf2_1 := fun o => (bcell hb2).2.1 (wo.heap.size) o (by first | omega | (simp; done) | (simp; omega))
          have hz2_1 := (bcell hb2).2.2 (wo.heap.size) (by first | omega | (simp; done) | (simp; omega))
          have HB2 := Lib.hid hb2
          clear hb2
          have Hho := Lib.hid ho
          clear ho
          have Hhi := Lib.hid hi
          clear hi
          go_upto_region 11 with (go_at_call 28; refine (HNU.out _ _).mono ?_; rintro e w' ⟨rfl, rfl⟩)
          refine name_world ?_
          intro wa hwa
          have hsa : w2.heap.size < wa.heap.size := by rw [hwa]; simp
          have HXA3 := Lib.hid (show wa.heap[w1.heap.size]? = some (.cells #[.slice A es.length c, .slice B 0 d] tlbT (0, 0)) by rw [hwa]; exact (by repeat (first | (with_reducible assumption) | (with_reducible exact HXT.out) | (with_reducible refine heap_below_is HB2.out (by (first | omega | (simp; done) | (simp; omega))) ?_) | (exact heap_at _ _ (by simp; done)) | (with_reducible refine heap_old_is _ _ (by (first | omega | (simp; done) | (simp; omega))) ?_) | (with_reducible refine heap_far_is (by (first | omega | (simp; done) | (simp; omega))) ?_))))
          have HXA6 := Lib.hid (show wa.heap[wo.heap.size]? = some (.cells #[.int .i64 a0, .int .i64 a1, .int .i64 a2, .bool a3, .int .i64 a4, .int .i64 a5, .int .i64 a6, .int .i64 a7, .bool a8, .bool a9, .bool a10, .bool a11, .bool a12, .int .i64 a13] entT (0, 0)) by rw [hwa]; exact (by repeat (first | (with_reducible assumption) | (with_reducible refine heap_below_is HB2.out (by (first | omega | (simp; done) | (simp; omega))) ?_) | (exact heap_at _ _ (by simp; done)) | (with_reducible refine heap_old_is _ _ (by (first | omega | (simp; done) | (simp; omega))) ?_) | (with_reducible refine heap_far_is (by (first | omega | (simp; done) | (simp; omega))) ?_))))
          have HXA7 := Lib.hid (show wa.heap[w2.heap.size]? = some (.cells #[.slice A' es'.length c', .slice B' 0 d'] tlbT (0, 0)) by rw [hwa]; exact heap_new _ _)
          have HBA := Lib.hid (show Below w1.heap.size w1 wa by rw [hwa]; exact (by repeat' (first | (with_reducible exact Below.refl _ _) | (with_reducible (refine Below.setCell ?_ ?_ _)) | (with_reducible (refine Below.alloc ?_ ?_ _)) | (with_reducible (refine Below.drew ?_)) | (with_reducible (refine below_via ?_ HB2.out ?_)) | (with_reducible (refine below_via ?_ HBW.out ?_)) | omega | (simp; done) | (simp; omega))))
          have HBO := Lib.hid (show Below wo.heap.size wo wa by rw [hwa]; exact (by repeat' (first | (with_reducible exact Below.refl _ _) | (with_reducible (refine Below.setCell ?_ ?_ _)) | (with_reducible (refine Below.alloc ?_ ?_ _)) | (with_reducible (refine Below.drew ?_)) | (with_reducible (refine below_via ?_ HB2.out ?_)) | omega | (simp; done) | (simp; omega))))
          have HOA := Lib.hid (show Own wa (w1.heap.size + 1) entT 14 Ent.cells es' A' c' by rw [hwa]; exact (by repeat (first | (with_reducible exact Own.mono Hho.out (by (first | omega | (simp; done) | (simp; omega)))) | (with_reducible refine Own.set_far ?_ (by (first | omega | (simp; done) | (simp; omega))) _) | (with_reducible refine Own.alloc ?_ _) | (with_reducible refine Own.drew ?_))))
          have HIA := Lib.hid (show Own wa (w1.heap.size + 1) invT 4 Inv.cells [] B' d' by rw [hwa]; exact (by repeat (first | (with_reducible exact Own.mono Hhi.out (by (first | omega | (simp; done) | (simp; omega)))) | (with_reducible refine Own.set_far ?_ (by (first | omega | (simp; done) | (simp; omega))) _) | (with_reducible refine Own.alloc ?_ _) | (with_reducible refine Own.drew ?_))))
          have HWN := Lib.hid (show Own wa (w1.heap.size + 1) entT 14 Ent.cells es A2 c2 by rw [hwa]; exact (by repeat (first | (with_reducible exact Own.mono HOW.out (by (first | omega | (simp; done) | (simp; omega)))) | (with_reducible refine Own.set_far ?_ (by (first | omega | (simp; done) | (simp; omega))) _) | (with_reducible refine Own.alloc ?_ _) | (with_reducible refine Own.drew ?_) | (with_reducible refine Own.below ?_ HB2.out (by (first | omega | (simp; done) | (simp; omega)))))))
          have hA2 := Lib.hid (fun p hp => (HOW.out.block_ (p := p) hp).2)
          have hA' := Lib.hid (fun p hp => (Hho.out.block_ (p := p) hp))
          clear hwa t3 tf3 hc2_0 hf2_0 hz2_0 hc2_1 hf2_1 hz2_1 e0 ef q12
          have a6' := fun j => cell_of_row _ _ j _ _ _ HXA6.out
          have af6 := fun j => frozen_of_row _ _ j _ _ HXA6.out
          have HIN := Lib.hid (fun W (hb : Below wa.heap.size wa W) => In_ent ⟨a0, a1, a2, a3, a4, a5, a6, a7, a8, a9, a10, a11, a12, a13⟩ A2 c2 es W hj1 ((HWN.out.at_ ent_len).below hb))
          have HIX := Lib.hid (idx_cases (fun y => entEq y ⟨a0, a1, a2, a3, a4, a5, a6, a7, a8, a9, a10, a11, a12, a13⟩) es)
          rw [show (fun y => entEq y ⟨a0, a1, a2, a3, a4, a5, a6, a7, a8, a9, a10, a11, a12, a13⟩) = entEq ⟨a0, a1, a2, a3, a4, a5, a6, a7, a8, a9, a10, a11, a12, a13⟩ by funext y; exact entEq_comm y _] at HIN HIX
          dsimp only [Ent.cells] at HIN
          obtain ⟨g, hg⟩ : ∃ g, g = (decide (es.length < 8) && !(es.any (entEq ⟨a0, a1, a2, a3, a4, a5, a6, a7, a8, a9, a10, a11, a12, a13⟩))) := ⟨_, rfl⟩
          have HG := Lib.hid hg
          rw [← hg] at HES
          clear hg
          go_cut [47] from 13 to 103 (fun v wc => v = .bool g ∧ Below wa.heap.size wa wc)
          case first =>
            obtain ⟨cn, hcn⟩ : ∃ x, es.any (entEq ⟨a0, a1, a2, a3, a4, a5, a6, a7, a8, a9, a10, a11, a12, a13⟩) = x := ⟨_, rfl⟩
            have HGC := Lib.hid (show g = (decide (es.length < 8) && !cn) by rw [HG.out, hcn])
            have HIY := Lib.hid (show (cn = true → (0 : Int) ≤ idx (entEq ⟨a0, a1, a2, a3, a4, a5, a6, a7, a8, a9, a10, a11, a12, a13⟩) es) ∧ (cn = false → idx (entEq ⟨a0, a1, a2, a3, a4, a5, a6, a7, a8, a9, a10, a11, a12, a13⟩) es = -1) from by
              rcases HIX.out with ⟨h3, h4⟩ | ⟨k, hk, h3, h4, h5⟩
              · rw [hcn] at h4
                exact ⟨fun h6 => (by rw [h4] at h6; cases h6), fun _ => h3⟩
              · refine ⟨fun _ => by omega, fun h6 => ?_⟩
                rw [h6, List.any_eq_false] at hcn
                exact absurd ((entEq_comm _ _).trans h4) (hcn _ (List.getElem_mem hk)))
            clear hcn HIX HES HG
            generalize idx (entEq ⟨a0, a1, a2, a3, a4, a5, a6, a7, a8, a9, a10, a11, a12, a13⟩) es = ix at *
            go_wp2_with fail
            refine Calls.mono (HIN.out _ (by repeat' (first | (with_reducible exact Below.refl _ _) | (with_reducible (refine Below.setCell ?_ ?_ _)) | (with_reducible (refine Below.alloc ?_ ?_ _)) | (with_reducible (refine Below.drew ?_)) | omega | (simp; done) | (simp; omega)))) ?_
            rintro e w3 ⟨rfl, hb3⟩
            have hs3 := hb3.size
            try simp at hs3
            have HB3 := Lib.hid hb3
            clear hb3
            cases cn
            · obtain rfl : ix = -1 := HIY.out.2 rfl
              by_cases hlen : es.length < 8
              · have hl8 : decide ((es.length : Int) < 8) = true := by simp; omega
                go_wp2_with fail
                go_meet
                case rel => exact ⟨by rw [HGC.out]; simp [hlen], HB3.out⟩
              · have hl8 : decide ((es.length : Int) < 8) = false := by simp; omega
                go_wp2_with fail
                go_meet
                case rel => exact ⟨by rw [HGC.out]; simp [hlen], HB3.out⟩
            · have hix := HIY.out.1 rfl
              have hix2 : decide (ix < 0) = false := by simp; omega
              go_wp2_with fail
              go_meet
              case rel => exact ⟨by rw [HGC.out]; simp, HB3.out⟩
          case rest =>
            obtain ⟨rfl, hbc⟩ := hcut
            obtain ⟨wb, rfl⟩ : ∃ wb : World, wb = wc := ⟨_, rfl⟩
            have HBC := Lib.hid hbc
            have hsc := hbc.size
            clear hbc a6' af6 HIN HIX
            have HC6 := Lib.hid ((HBC.out.block _ (heap_lt HXA6.out)).trans HXA6.out)
            have HWC := Lib.hid (HWN.out.below HBC.out (Nat.le_refl _))
            have c6' := fun j => cell_of_row _ _ j _ _ _ HC6.out
            have cf6 := fun j => frozen_of_row _ _ j _ _ HC6.out
            go_upto_if 47 with fail
            go_cut [4] from 13 to 103 (fun v wd => ∃ A5 c5, v = .slice A5 es'.length c5 ∧ Own wd (w1.heap.size + 1) entT 14 Ent.cells es' A5 c5 ∧ Below (w1.heap.size + 1) wb wd ∧ (∀ b, b < wb.heap.size → (∀ p : Addr, A2 = some p → p.block ≠ b) → wd.heap[b]? = wb.heap[b]?) ∧ ApartR A' A5)
            case first =>
              cases g
              · obtain rfl : es' = es := by rw [HES.out]; rfl
                go_wp2_with fail
                go_meet
                case rel => exact ⟨A2, c2, rfl, HWC.out, Below.refl _ _, fun _ _ _ => rfl, fun p q hp hq => by have h1 := hA2.out q hq; have h2 := (hA'.out p hp).1; simp at h2; omega⟩
              · have HE2 := Lib.hid (show es' = es ++ [⟨a0, a1, a2, a3, a4, a5, a6, a7, a8, a9, a10, a11, a12, a13⟩] by rw [HES.out]; rfl)
                have hg8 := HG.out
                simp at hg8
                have hlen := hg8.1
                clear hg8
                go_wp2_with (at_builtin; refine wpList_two rfl (.tmp 48) (.tmp 50) _ rfl (w1.heap.size + 1) entT i0 _ 14 80 Try.underlying24 HI0.out HZ0.out HZ1.out HZ2.out rfl (by omega) ent_len ent_ones es es' ⟨a0, a1, a2, a3, a4, a5, a6, a7, a8, a9, a10, a11, a12, a13⟩ HE2.out A2 c2 rfl (HWC.out.alloc _) _ rfl (heap_new _ _) (by simp only [maxLen]; omega) (by omega) (by simp; omega) ?_; intro A5 c5 w5 ho5 hb5 hk5 hq5; have HO5 := Lib.hid ho5; have HK5 := Lib.hid hk5; have HQ5 := Lib.hid hq5; have HB5 := Lib.hid hb5; clear ho5 hk5 hb5 hq5)
                go_meet
                case rel => exact ⟨A5, c5, rfl, HO5.out, below_via ((Below.refl _ _).alloc (by omega) _) HB5.out (Nat.le_refl _), fun b hb hne => (HK5.out b (by simp; omega) hne).trans (heap_old _ _ hb), fun p q hp hq => by
                  have h2 := (hA'.out p hp)
                  rcases HQ5.out q hq with h3 | ⟨r, hr, h3⟩
                  · have h6 := (HOA.out.block_ hp).2; simp at h3; omega
                  · have h1 := hA2.out r hr; have h4 := h2.1; simp at h4; omega⟩
            case rest =>
              obtain ⟨A5, c5, rfl, ho5, hb5, hk5, hap5⟩ := hcut
              obtain ⟨wd, rfl⟩ : ∃ wd : World, wd = wc := ⟨_, rfl⟩
              have HK5 := Lib.hid hk5
              have HAP5 := Lib.hid hap5
              have hs5 := hb5.size
              have h23 : wo.heap.size < w2.heap.size := by omega
              have HD3 := Lib.hid (show wd.heap[w1.heap.size]? = some (.cells #[.slice A es.length c, .slice B 0 d] tlbT (0, 0)) from (hb5.block w1.heap.size (by omega)).trans ((HBC.out.block _ (by omega)).trans HXA3.out))
              have HD6 := Lib.hid (show wd.heap[wo.heap.size]? = some (.cells #[.int .i64 a0, .int .i64 a1, .int .i64 a2, .bool a3, .int .i64 a4, .int .i64 a5, .int .i64 a6, .int .i64 a7, .bool a8, .bool a9, .bool a10, .bool a11, .bool a12, .int .i64 a13] entT (0, 0)) from (hk5 wo.heap.size (by omega) (fun p hp => by have := hA2.out p hp; omega)).trans HC6.out)
              have HD7 := Lib.hid (show wd.heap[w2.heap.size]? = some (.cells #[.slice A' es'.length c', .slice B' 0 d'] tlbT (0, 0)) from (hk5 w2.heap.size (by omega) (fun p hp => by have := hA2.out p hp; omega)).trans ((HBC.out.block _ (by omega)).trans HXA7.out))
              have HOD' := Lib.hid (show Own wd (w1.heap.size + 1) entT 14 Ent.cells es' A' c' from (HOA.out.below HBC.out (Nat.le_refl _)).keep2 (fun p hp => hk5 p.block (by have := (HOA.out.block_ hp).2; omega) (fun r hr => by have h1 := hA2.out r hr; have h4 := (hA'.out p hp).1; simp at h4; omega)))
              have HID' := Lib.hid (show Own wd (w1.heap.size + 1) invT 4 Inv.cells [] B' d' from (HIA.out.below HBC.out (Nat.le_refl _)).keep2 (fun p hp => hk5 p.block (by have := (HIA.out.block_ hp).2; omega) (fun r hr => Own.blk_ne HWC.out (HIA.out.below HBC.out (Nat.le_refl _)) (by decide) r p hr hp)))
              have HO5 := Lib.hid ho5
              have HBD := Lib.hid (show Below w1.heap.size w1 wd from below_via (below_via HBA.out HBC.out (by omega)) hb5 (by omega))
              clear ho5 hb5 hk5 hap5 c6' cf6 HG HES
              have HEQ := Lib.hid (fun W (hb : Below wd.heap.size wd W) => Eq_ent A' A5 c' c5 es' W (by omega) ((HOD'.out.at_ ent_len).below hb) ((HO5.out.at_ ent_len).below hb))
              have x7 := fun j => cell_of_row _ _ j _ _ _ HD7.out
              have xf7 := fun j => frozen_of_row _ _ j _ _ HD7.out
              have x3 := fun j => cell_of_row _ _ j _ _ _ HD3.out
              have xf3 := fun j => frozen_of_row _ _ j _ _ HD3.out
              have h1d : w1.heap.size < wd.heap.size := by omega
              have h2d : w2.heap.size < wd.heap.size := by omega
              go_wp2_with fail
              refine Calls.mono (HEQ.out _ (by repeat' (first | (with_reducible exact Below.refl _ _) | (with_reducible (refine Below.setCell ?_ ?_ _)) | (with_reducible (refine Below.alloc ?_ ?_ _)) | (with_reducible (refine Below.drew ?_)) | omega | (simp; done) | (simp; omega)))) ?_
              rintro e w4 ⟨rfl, hb4⟩
              have hs4 := hb4.size
              try simp at hs4
              have hc4_0 := fun o => (bcell hb4).1 (w1.heap.size) o (by first | omega | (simp; done) | (simp; omega))
              have hf4_0 := fun o => (bcell hb4).2.1 (w1.heap.size) o (by first | omega | (simp; done) | (simp; omega))
              have hz4_0 := (bcell hb4).2.2 (w1.heap.size) (by first | omega | (simp; done) | (simp; omega))
              have hc4_1 := fun o => (bcell hb4).1 (w2.heap.size) o (by first | omega | (simp; done) | (simp; omega))
              have hf4_1 := fun o => (bcell hb4).2.1 (w2.heap.size) o (by first | omega | (simp; done) | (simp; omega))
              have hz4_1 := (bcell hb4).2.2 (w2.heap.size) (by first | omega | (simp; done) | (simp; omega))
              have HB4 := Lib.hid hb4
              clear hb4
              go_upto_region 16 with fail
              refine name_world ?_
              intro wt hwt
              have HT3 := Lib.hid (show wt.heap[w1.heap.size]? = some (.cells #[.slice A' es'.length c', .slice B' 0 d'] tlbT (0, 0)) by rw [hwt]; exact heap_set_same (heap_set_same ((HB4.out.block _ h1d).trans HD3.out) 0 _) 1 _)
              have HT6 := Lib.hid (show wt.heap[wo.heap.size]? = some (.cells #[.int .i64 a0, .int .i64 a1, .int .i64 a2, .bool a3, .int .i64 a4, .int .i64 a5, .int .i64 a6, .int .i64 a7, .bool a8, .bool a9, .bool a10, .bool a11, .bool a12, .int .i64 a13] entT (0, 0)) by rw [hwt]; exact (by repeat (first | (with_reducible assumption) | (with_reducible exact HD6.out) | (with_reducible refine heap_below_is HB4.out (by (first | omega | (simp; done) | (simp; omega))) ?_) | (exact heap_at _ _ (by simp; done)) | (with_reducible refine heap_old_is _ _ (by (first | omega | (simp; done) | (simp; omega))) ?_) | (with_reducible refine heap_far_is (by (first | omega | (simp; done) | (simp; omega))) ?_))))
              have HOT := Lib.hid (show Own wt (w1.heap.size + 1) entT 14 Ent.cells es' A' c' by rw [hwt]; exact (by repeat (first | (with_reducible exact Own.mono HOD'.out (by (first | omega | (simp; done) | (simp; omega)))) | (with_reducible refine Own.set_far ?_ (by (first | omega | (simp; done) | (simp; omega))) _) | (with_reducible refine Own.alloc ?_ _) | (with_reducible refine Own.drew ?_) | (with_reducible refine Own.below ?_ HB4.out (by (first | omega | (simp; done) | (simp; omega)))))))
              have HIT := Lib.hid (show Own wt (w1.heap.size + 1) invT 4 Inv.cells [] B' d' by rw [hwt]; exact (by repeat (first | (with_reducible exact Own.mono HID'.out (by (first | omega | (simp; done) | (simp; omega)))) | (with_reducible refine Own.set_far ?_ (by (first | omega | (simp; done) | (simp; omega))) _) | (with_reducible refine Own.alloc ?_ _) | (with_reducible refine Own.drew ?_) | (with_reducible refine Own.below ?_ HB4.out (by (first | omega | (simp; done) | (simp; omega)))))))
              have HO5T := Lib.hid (show Own wt (w1.heap.size + 1) entT 14 Ent.cells es' A5 c5 by rw [hwt]; exact (by repeat (first | (with_reducible exact Own.mono HO5.out (by (first | omega | (simp; done) | (simp; omega)))) | (with_reducible refine Own.set_far ?_ (by (first | omega | (simp; done) | (simp; omega))) _) | (with_reducible refine Own.alloc ?_ _) | (with_reducible refine Own.drew ?_) | (with_reducible refine Own.below ?_ HB4.out (by (first | omega | (simp; done) | (simp; omega)))))))
              have HBT := Lib.hid (show Below w1.heap.size w1 wt by rw [hwt]; exact (by repeat' (first | (with_reducible exact Below.refl _ _) | (with_reducible (refine Below.setCell ?_ ?_ _)) | (with_reducible (refine Below.alloc ?_ ?_ _)) | (with_reducible (refine Below.drew ?_)) | (with_reducible (refine below_via ?_ HB4.out ?_)) | (with_reducible (refine below_via ?_ HBD.out ?_)) | omega | (simp; done) | (simp; omega))))
              have h3t := heap_lt HT3.out
              have h6t := heap_lt HT6.out
              clear hwt x7 xf7 x3 xf3 hc4_0 hf4_0 hz4_0 hc4_1 hf4_1 hz4_1
              have t3 := fun j => cell_of_row _ _ j _ _ _ HT3.out
              have tf3 := fun j => frozen_of_row _ _ j _ _ HT3.out
              have t6 := fun j => cell_of_row _ _ j _ _ _ HT6.out
              have tf6 := fun j => frozen_of_row _ _ j _ _ HT6.out
              have HEND := Lib.hid (fun W (hb : Below wt.heap.size wt W) => (show OnlyAt w1 l (k + 1) (.slice A5 es'.length c5) W from ⟨⟨es', A', c', B', d', A5, c5, HTF.out, rfl, (hb.block _ h3t).trans HT3.out, HOT.out.below hb (Nat.le_refl _), HIT.out.below hb (Nat.le_refl _), HO5T.out.below hb (Nat.le_refl _), HAP5.out⟩, below_via HBT.out hb (by omega)⟩))
              by_cases hk2 : a0 = 2
              · cases a8
                · subst hk2
                  go_wp2_with fail
                  go_roundg (40 - (k + 1))
                  case rel => exact ⟨k + 1, by omega, by omega, rfl, by go_num, HEND.out _ (Below.refl _ _)⟩
                  case measure => have := HGK.out; omega
                · subst hk2
                  have HMY := Lib.hid (fun W (hb : Below wt.heap.size wt W) => Mid_yes ⟨A', c', es', B', d', []⟩ a1 a4 0 W ((TlAt.of_own HOT.out HIT.out (by omega) (by simp)).below hb) (look_mid (e := ⟨2, a1, a2, a3, a4, a5, a6, a7, true, a9, a10, a11, a12, a13⟩) A' c' B' d' HTF.out HOK.out))
                  have HFM := Lib.hid (fun (h : es'.any (entEq ⟨2, a1, a2, a3, a4, a5, a6, a7, true, a9, a10, a11, a12, a13⟩) = true) => found_mid HOK.out rfl rfl h)
                  have HI5 := Lib.hid (fun W (hb : Below wt.heap.size wt W) => In_ent ⟨2, a1, a2, a3, a4, a5, a6, a7, true, a9, a10, a11, a12, a13⟩ A5 c5 es' W (by omega) ((HO5T.out.at_ ent_len).below hb))
                  have HIX := Lib.hid (idx_cases (fun y => entEq y ⟨2, a1, a2, a3, a4, a5, a6, a7, true, a9, a10, a11, a12, a13⟩) es')
                  rw [show (fun y => entEq y ⟨2, a1, a2, a3, a4, a5, a6, a7, true, a9, a10, a11, a12, a13⟩) = entEq ⟨2, a1, a2, a3, a4, a5, a6, a7, true, a9, a10, a11, a12, a13⟩ by funext y; exact entEq_comm y _] at HI5 HIX
                  dsimp only at HMY HFM
                  simp only [Tl.cells, Ent.cells, List.length_nil] at HMY HI5
                  generalize foundR es' _ = r at *
                  generalize foundX es' _ = fx at *
                  obtain ⟨cn, hcn⟩ : ∃ x, es'.any (entEq ⟨2, a1, a2, a3, a4, a5, a6, a7, true, a9, a10, a11, a12, a13⟩) = x := ⟨_, rfl⟩
                  have HIY := Lib.hid (show (cn = true → (0 : Int) ≤ idx (entEq ⟨2, a1, a2, a3, a4, a5, a6, a7, true, a9, a10, a11, a12, a13⟩) es') ∧ (cn = false → idx (entEq ⟨2, a1, a2, a3, a4, a5, a6, a7, true, a9, a10, a11, a12, a13⟩) es' = -1) from by
                    rcases HIX.out with ⟨h3, h4⟩ | ⟨k, hk, h3, h4, h5⟩
                    · rw [hcn] at h4
                      exact ⟨fun h6 => (by rw [h4] at h6; cases h6), fun _ => h3⟩
                    · refine ⟨fun _ => by omega, fun h6 => ?_⟩
                      rw [h6, List.any_eq_false] at hcn
                      exact absurd ((entEq_comm _ _).trans h4) (hcn _ (List.getElem_mem hk)))
                  rw [hcn] at HFM
                  clear hcn HIX
                  generalize idx (entEq ⟨2, a1, a2, a3, a4, a5, a6, a7, true, a9, a10, a11, a12, a13⟩) es' = ix at *
                  obtain ⟨r0, r1, r2, r3, r4, r5, r6, r7, r8, r9, r10, r11, r12, r13⟩ := r
                  dsimp only at HMY HFM
                  cases cn
                  · obtain rfl : ix = -1 := HIY.out.2 rfl
                    clear HFM
                    go_wp2_with fail
                    refine Calls.mono (HMY.out _ (by repeat' (first | (with_reducible exact Below.refl _ _) | (with_reducible (refine Below.setCell ?_ ?_ _)) | (with_reducible (refine Below.alloc ?_ ?_ _)) | (with_reducible (refine Below.drew ?_)) | omega | (simp; done) | (simp; omega)))) ?_
                    rintro e w5 ⟨rfl, hb5⟩
                    have hs5 := hb5.size
                    try simp at hs5
                    have hc5_0 := fun o => (bcell hb5).1 (w1.heap.size) o (by first | omega | (simp; done) | (simp; omega))
                    have hf5_0 := fun o => (bcell hb5).2.1 (w1.heap.size) o (by first | omega | (simp; done) | (simp; omega))
                    have hz5_0 := (bcell hb5).2.2 (w1.heap.size) (by first | omega | (simp; done) | (simp; omega))
                    have hc5_1 := fun o => (bcell hb5).1 (wo.heap.size) o (by first | omega | (simp; done) | (simp; omega))
                    have hf5_1 := fun o => (bcell hb5).2.1 (wo.heap.size) o (by first | omega | (simp; done) | (simp; omega))
                    have hz5_1 := (bcell hb5).2.2 (wo.heap.size) (by first | omega | (simp; done) | (simp; omega))
                    have HB5 := Lib.hid hb5
                    clear hb5
                    go_wp2_with fail
                    refine Calls.mono (HI5.out _ (by repeat' (first | (with_reducible exact Below.refl _ _) | (with_reducible (refine Below.setCell ?_ ?_ _)) | (with_reducible (refine Below.alloc ?_ ?_ _)) | (with_reducible (refine Below.drew ?_)) | (with_reducible (refine below_via ?_ HB5.out ?_)) | omega | (simp; done) | (simp; omega)))) ?_
                    rintro e w6 ⟨rfl, hb6⟩
                    have hs6 := hb6.size
                    try simp at hs6
                    have hc6_0 := fun o => (bcell hb6).1 (w1.heap.size) o (by first | omega | (simp; done) | (simp; omega))
                    have hf6_0 := fun o => (bcell hb6).2.1 (w1.heap.size) o (by first | omega | (simp; done) | (simp; omega))
                    have hz6_0 := (bcell hb6).2.2 (w1.heap.size) (by first | omega | (simp; done) | (simp; omega))
                    have hc6_1 := fun o => (bcell hb6).1 (wo.heap.size) o (by first | omega | (simp; done) | (simp; omega))
                    have hf6_1 := fun o => (bcell hb6).2.1 (wo.heap.size) o (by first | omega | (simp; done) | (simp; omega))
                    have hz6_1 := (bcell hb6).2.2 (wo.heap.size) (by first | omega | (simp; done) | (simp; omega))
                    have HB6 := Lib.hid hb6
                    clear hb6
                    go_wp2_with fail
                    go_roundg (40 - (k + 1))
                    case rel => exact ⟨k + 1, by omega, by omega, rfl, by go_num, HEND.out _ (by repeat' (first | (with_reducible exact Below.refl _ _) | (with_reducible (refine Below.setCell ?_ ?_ _)) | (with_reducible (refine Below.alloc ?_ ?_ _)) | (with_reducible (refine Below.drew ?_)) | (with_reducible (refine below_via ?_ HB6.out ?_)) | (with_reducible (refine below_via ?_ HB5.out ?_)) | omega | (simp; done) | (simp; omega)))⟩
                    case measure => have := HGK.out; omega
                  · have hix := HIY.out.1 rfl
                    have hix2 : decide ((0 : Int) ≤ ix) = true := by simp; omega
                    obtain ⟨rfl, rfl, rfl, rfl⟩ := HFM.out rfl
                    clear HFM
                    go_wp2_with fail
                    refine Calls.mono (HMY.out _ (by repeat' (first | (with_reducible exact Below.refl _ _) | (with_reducible (refine Below.setCell ?_ ?_ _)) | (with_reducible (refine Below.alloc ?_ ?_ _)) | (with_reducible (refine Below.drew ?_)) | omega | (simp; done) | (simp; omega)))) ?_
                    rintro e w5 ⟨rfl, hb5⟩
                    have hs5 := hb5.size
                    try simp at hs5
                    have hc5_0 := fun o => (bcell hb5).1 (w1.heap.size) o (by first | omega | (simp; done) | (simp; omega))
                    have hf5_0 := fun o => (bcell hb5).2.1 (w1.heap.size) o (by first | omega | (simp; done) | (simp; omega))
                    have hz5_0 := (bcell hb5).2.2 (w1.heap.size) (by first | omega | (simp; done) | (simp; omega))
                    have hc5_1 := fun o => (bcell hb5).1 (wo.heap.size) o (by first | omega | (simp; done) | (simp; omega))
                    have hf5_1 := fun o => (bcell hb5).2.1 (wo.heap.size) o (by first | omega | (simp; done) | (simp; omega))
                    have hz5_1 := (bcell hb5).2.2 (wo.heap.size) (by first | omega | (simp; done) | (simp; omega))
                    have HB5 := Lib.hid hb5
                    clear hb5
                    go_wp2_with fail
                    refine Calls.mono (HI5.out _ (by repeat' (first | (with_reducible exact Below.refl _ _) | (with_reducible (refine Below.setCell ?_ ?_ _)) | (with_reducible (refine Below.alloc ?_ ?_ _)) | (with_reducible (refine Below.drew ?_)) | (with_reducible (refine below_via ?_ HB5.out ?_)) | omega | (simp; done) | (simp; omega)))) ?_
                    rintro e w6 ⟨rfl, hb6⟩
                    have hs6 := hb6.size
                    try simp at hs6
                    have hc6_0 := fun o => (bcell hb6).1 (w1.heap.size) o (by first | omega | (simp; done) | (simp; omega))
                    have hf6_0 := fun o => (bcell hb6).2.1 (w1.heap.size) o (by first | omega | (simp; done) | (simp; omega))
                    have hz6_0 := (bcell hb6).2.2 (w1.heap.size) (by first | omega | (simp; done) | (simp; omega))
                    have hc6_1 := fun o => (bcell hb6).1 (wo.heap.size) o (by first | omega | (simp; done) | (simp; omega))
                    have hf6_1 := fun o => (bcell hb6).2.1 (wo.heap.size) o (by first | omega | (simp; done) | (simp; omega))
                    have hz6_1 := (bcell hb6).2.2 (wo.heap.size) (by first | omega | (simp; done) | (simp; omega))
                    have hc6_2 := fun o => (bcell hb6).1 (w5.heap.size) o (by first | omega | (simp; done) | (simp; omega))
                    have hf6_2 := fun o => (bcell hb6).2.1 (w5.heap.size) o (by first | omega | (simp; done) | (simp; omega))
                    have hz6_2 := (bcell hb6).2.2 (w5.heap.size) (by first | omega | (simp; done) | (simp; omega))
                    have HB6 := Lib.hid hb6
                    clear hb6
                    go_wp2_with (go_at_call 28; refine (HNU.out _ _).mono ?_; rintro e w' ⟨rfl, rfl⟩)
                    go_roundg (40 - (k + 1))
                    case rel => exact ⟨k + 1, by omega, by omega, rfl, by go_num, HEND.out _ (by repeat' (first | (with_reducible exact Below.refl _ _) | (with_reducible (refine Below.setCell ?_ ?_ _)) | (with_reducible (refine Below.alloc ?_ ?_ _)) | (with_reducible (refine Below.drew ?_)) | (with_reducible (refine below_via ?_ HB6.out ?_)) | (with_reducible (refine below_via ?_ HB5.out ?_)) | omega | (simp; done) | (simp; omega)))⟩
                    case measure => have := HGK.out; omega
              · have q2 : (a0 == 2) = false := by simpa using hk2
                clear hk2
                go_wp2_with fail
                go_roundg (40 - (k + 1))
                case rel => exact ⟨k + 1, by omega, by omega, rfl, by go_num, HEND.out _ (Below.refl _ _)⟩
                case measure => have := HGK.out; omega
      · by_cases hka : k < l.length
        · obtain rfl : k = 40 := by omega
          have hki : (40 : Int) < l.length := by omega
          go_wp2_with fail
          refine Calls.mono (HWA.out _) ?_
          rintro e w5 ⟨rfl, hb5⟩
          have hs5 := hb5.size
          try simp at hs5
          have HB5 := Lib.hid hb5
          clear hb5
          go_wp2
          go_ret
          exact ⟨rfl, (by repeat' (first | (with_reducible exact Below.refl _ _) | (with_reducible (refine Below.setCell ?_ ?_ _)) | (with_reducible (refine Below.alloc ?_ ?_ _)) | (with_reducible (refine Below.drew ?_)) | (with_reducible (refine below_via ?_ HB5.out ?_)) | (with_reducible (refine below_via ?_ HBW.out ?_)) | (with_reducible (refine below_via ?_ HB.out ?_)) | omega | (simp; done) | (simp; omega)))⟩
        · have hki : ¬ (k : Int) < l.length := by omega
          go_wp2_with fail
          refine Calls.mono (HWA.out _) ?_
          rintro e w5 ⟨rfl, hb5⟩
          have hs5 := hb5.size
          try simp at hs5
          have HB5 := Lib.hid hb5
          clear hb5
          go_wp2
          go_ret
          exact ⟨rfl, (by repeat' (first | (with_reducible exact Below.refl _ _) | (with_reducible (refine Below.setCell ?_ ?_ _)) | (with_reducible (refine Below.alloc ?_ ?_ _)) | (with_reducible (refine Below.drew ?_)) | (with_reducible (refine below_via ?_ HB5.out ?_)) | (with_reducible (refine below_via ?_ HBW.out ?_)) | (with_reducible (refine below_via ?_ HB.out ?_)) | omega | (simp; done) | (simp; omega)))⟩

end Go.Proofs.Ytbaninglcafhhaa
