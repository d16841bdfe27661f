/-
  'TlbExact' returns true, and of what was there nothing has turned. Conditions: the argument reads as such.
-/
import Derived.Test.YtbaninglcafhhaaExactP
namespace Go.Proofs.Ytbaninglcafhhaa
open Go.RowKit

set_option maxRecDepth 100000 in
set_option maxHeartbeats 32000000 in
theorem tlbExact_walk (q : ScrT) (w : World) (hq : ScrAt w q) :
    Calls Try.prog 14 #[.agg q.cells.toArray] w fun e w' => e = .returned (.bool true) ∧ Below w.heap.size w w' := by
  have HHV := Lib.hid (fun W (hb : Below w.heap.size w W) => heavy9_any q W (hq.below hb))
  have HL := Lib.hid hq.lat
  have HLO := Lib.hid hq.lok
  have HT0 := Lib.hid hq.tok.at_
  have hll := hq.llen
  clear hq
  obtain ⟨⟨ea, ec, es0, da, dc, ds0⟩, la, lc, l⟩ := q
  dsimp only [ScrT.cells] at *
  have HWA := Lib.hid (fun W => wakes9_any W)
  have HNU := Lib.hid (fun (n : Int) W => num9_any n W)
  go_enter Try.func14, Try.ntmps14
  go_wp2_with fail
  refine (HHV.out _ (by repeat' (first | (with_reducible exact Below.refl _ _) | (with_reducible (refine Below.setCell ?_ ?_ _)) | (with_reducible (refine Below.alloc ?_ ?_ _)) | (with_reducible (refine Below.drew ?_)) | omega | (simp; done) | (simp; omega)))).mono ?_
  rintro e w1 ⟨b, hlight, rfl, hb1⟩
  have HLI := Lib.hid hlight
  clear hlight HHV
  have hs1 := hb1.size
  simp at hs1
  have hc1 := fun o => (bcell hb1).1 w.heap.size o (by simp)
  have hf1 := fun o => (bcell hb1).2.1 w.heap.size o (by simp)
  have hz1 : w.heap.size < w1.heap.size := by omega
  have HB1 := Lib.hid hb1
  clear hb1
  cases b
  case true =>
    go_wp2
    go_ret
    exact ⟨rfl, (by repeat' (first | (with_reducible exact Below.refl _ _) | (with_reducible (refine Below.setCell ?_ ?_ _)) | (with_reducible (refine Below.alloc ?_ ?_ _)) | (with_reducible (refine Below.drew ?_)) | (with_reducible (refine below_via ?_ HB1.out ?_)) | omega | (simp; done) | (simp; omega)))⟩
  case false =>
    obtain ⟨hli1, hli2, _⟩ := HLI.out rfl
    dsimp only at hli1 hli2
    have HCP0 := Lib.hid (fun W (hb : Below w.heap.size w W) => CopyTLB_any ⟨ea, ec, es0, da, dc, ds0⟩ W (HT0.out.below hb) (by dsimp only; omega) (by dsimp only; omega))
    dsimp only [Tl.cells] at HCP0
    go_wp2_with fail
    refine Calls.mono (HCP0.out _ (by repeat' (first | (with_reducible exact Below.refl _ _) | (with_reducible (refine Below.setCell ?_ ?_ _)) | (with_reducible (refine Below.alloc ?_ ?_ _)) | (with_reducible (refine Below.drew ?_)) | (with_reducible (refine below_via ?_ HB1.out ?_)) | omega | (simp; done) | (simp; omega)))) ?_
    rintro e w2 ⟨A0, c0, B0, d0, rfl, ho2, hi2, hb2⟩
    have hs2 := hb2.size
    try simp at hs2
    have hc2_0 := fun o => (bcell hb2).1 (w.heap.size) o (by first | omega | (simp; done) | (simp; omega))
    have hf2_0 := fun o => (bcell hb2).2.1 (w.heap.size) o (by first | omega | (simp; done) | (simp; omega))
    have hz2_0 := (bcell hb2).2.2 (w.heap.size) (by first | omega | (simp; done) | (simp; omega))
    have HB2 := Lib.hid hb2
    clear hb2
    have Hho2 := Lib.hid ho2
    clear ho2
    have Hhi2 := Lib.hid hi2
    clear hi2
    go_wp2_with fail
    refine name_world ?_
    intro wo hwo
    have HX := Lib.hid (show wo.heap[w.heap.size]? = some (.cells #[.slice ea es0.length ec, .slice da ds0.length dc, .slice la l.length lc] scrT (0, 0)) by rw [hwo]; exact (by repeat (first | (with_reducible assumption) | (with_reducible refine heap_below_is HB2.out (by (first | omega | (simp; done) | (simp; omega))) ?_) | (with_reducible refine heap_below_is HB1.out (by (first | omega | (simp; done) | (simp; omega))) ?_) | (exact heap_at _ _ (by simp; done)) | (with_reducible refine heap_old_is _ _ (by (first | omega | (simp; done) | (simp; omega))) ?_) | (with_reducible refine heap_far_is (by (first | omega | (simp; done) | (simp; omega))) ?_))))
    have HX3 := Lib.hid (show wo.heap[w2.heap.size]? = some (.cells #[.slice A0 es0.length c0, .slice B0 ds0.length d0] tlbT (0, 0)) by rw [hwo]; exact heap_new _ _)
    have HB := Lib.hid (show Below w.heap.size w wo by rw [hwo]; repeat' (first | (with_reducible exact Below.refl _ _) | (with_reducible (refine Below.setCell ?_ ?_ _)) | (with_reducible (refine Below.alloc ?_ ?_ _)) | (with_reducible (refine Below.drew ?_)) | (with_reducible (refine below_via ?_ HB2.out ?_)) | (with_reducible (refine below_via ?_ HB1.out ?_)) | omega | (simp; done) | (simp; omega)))
    have HO3 := Lib.hid (show Own wo (w1.heap.size + 3) entT 14 Ent.cells es0 A0 c0 by rw [hwo]; exact (by repeat (first | (with_reducible exact Own.mono Hho2.out (by (first | omega | (simp; done) | (simp; omega)))) | (with_reducible refine Own.set_far ?_ (by (first | omega | (simp; done) | (simp; omega))) _) | (with_reducible refine Own.alloc ?_ _) | (with_reducible refine Own.drew ?_))))
    have HI3 := Lib.hid (show Own wo (w1.heap.size + 3) invT 4 Inv.cells ds0 B0 d0 by rw [hwo]; exact (by repeat (first | (with_reducible exact Own.mono Hhi2.out (by (first | omega | (simp; done) | (simp; omega)))) | (with_reducible refine Own.set_far ?_ (by (first | omega | (simp; done) | (simp; omega))) _) | (with_reducible refine Own.alloc ?_ _) | (with_reducible refine Own.drew ?_))))
    have hso : w2.heap.size < wo.heap.size := by rw [hwo]; simp
    have hso1 : w.heap.size < w2.heap.size := by omega
    clear hwo hc1 hf1 hc2_0 hf2_0 hz2_0 Hho2 Hhi2 HCP0
    go_loopg [4] 20 (fun gg i wr => ∃ k : Nat, k ≤ l.length ∧ k ≤ 20 ∧ gg = 20 - k ∧ i = .int .i64 k ∧ ExAt w2.heap.size wr ∧ Below w2.heap.size wo wr)
    case atStart => exact ⟨0, Nat.zero_le _, Nat.zero_le _, rfl, rfl, ⟨es0, ds0, A0, c0, B0, d0, HX3.out, TlAt.of_own HO3.out HI3.out (by omega) (by omega), hli1, hli2⟩, Below.refl _ _⟩
    case round => as_aux_lemma =>
      obtain ⟨k, hk, hk20, hgk, rfl, ⟨es, ds, A, c, B, d, hxt, hat, hes, hds⟩, hbw⟩ := hrel
      have HGK := Lib.hid hgk
      have HXT := Lib.hid hxt
      have HAT := Lib.hid hat
      have HBW := Lib.hid hbw
      have hsw := hbw.size
      have HXR := Lib.hid ((hbw.block _ hso1).trans HX.out)
      clear hgk hxt hat hbw
      have e2 := cell_of_row _ _ 2 _ _ _ HXR.out
      have ef := fun j => frozen_of_row _ _ j _ _ HXR.out
      have hxl := heap_lt HXR.out
      have hxt := heap_lt HXT.out
      by_cases hlt : k < l.length ∧ k < 20
      · obtain ⟨hlt, hlt12⟩ := hlt
        have hki : (k : Int) < l.length := by omega
        have q12 : decide ((k : Int) < 20) = true := by simp; omega
        have HBR := Lib.hid (below_via HB.out HBW.out (by have := HB.out.size; omega))
        obtain ⟨be, oe, rfl, hbe, hce⟩ := at_cells HL.out HBR.out hlt
        have HAI := Lib.hid (HLO.out l[k] (List.getElem_mem hlt))
        obtain ⟨a, ha⟩ : ∃ a, l[k] = a := ⟨_, rfl⟩
        rw [ha] at hce HAI
        clear ha
        obtain ⟨do_, n, vm, asd, acc, e⟩ := a
        dsimp only [ActT.cells] at hce
        have hbe2 : be < wr.heap.size := by have := HBR.out.size; omega
        obtain ⟨a0, a1, a2, a3, a4, a5, a6, a7, a8, a9, a10, a11, a12, a13⟩ := e
        dsimp only [Ent.cells] at hce
        have HRG := Lib.hid (show wr.rangeAt be (oe + k * 19) [.int .i64 do_, .int .i64 n, .int .i64 vm, .int .i64 asd, .int .i64 acc, .int .i64 a0, .int .i64 a1, .int .i64 a2, .bool a3, .int .i64 a4, .int .i64 a5, .int .i64 a6, .int .i64 a7, .bool a8, .bool a9, .bool a10, .bool a11, .bool a12, .int .i64 a13] from hce)
        clear hce
        have HRT := Lib.hid (fun W (hb : Below wr.heap.size wr W) => rTLB_any ⟨A, c, es, B, d, ds⟩ W (HAT.out.below hb))
        have HCP := Lib.hid (fun W (hb : Below wr.heap.size wr W) => CopyTLB_any ⟨A, c, es, B, d, ds⟩ W (HAT.out.below hb) (by dsimp only; omega) (by dsimp only; omega))
        have HWI := Lib.hid (fun W => within_any do_ 7 W (by omega) (by omega) HAI.out.1)
        dsimp only [Tl.cells] at HRT HCP
        have hdd := within_lt do_ 7 (by omega)
        generalize withinOf do_ 7 = dd at *
        have t3 := fun j => cell_of_row _ _ j _ _ _ HXT.out
        have tf3 := fun j => frozen_of_row _ _ j _ _ HXT.out
        obtain ⟨may, hmay⟩ : ∃ b, tlbOk es ds = b := ⟨_, rfl⟩
        rw [hmay] at HRT
        have HMY := Lib.hid hmay
        clear hmay
        go_upto_region 7 with fail
        refine wp_region_lit ?_
        refine wpList_plain rfl fun K hK => ?_
        unfold Oper.wp execOp
        go_simp
        refine hK _ _ ?_
        clear hK K
        refine wpList_plain rfl fun K hK => ?_
        unfold Oper.wp execOp
        go_simp
        refine hK _ _ ?_
        clear hK K
        refine wpList_plain rfl fun K hK => ?_
        unfold Oper.wp execOp
        go_simp
        refine hK _ _ ?_
        clear hK K
        refine wpList_plain rfl fun K hK => ?_
        unfold Oper.wp execOp
        go_simp
        refine hK _ _ ?_
        clear hK K
        refine wpList_load_mid rfl 49 (.tmp 36) rfl be (oe + k * 19) rfl [.int .i64 do_, .int .i64 n, .int .i64 vm, .int .i64 asd, .int .i64 acc, .int .i64 a0, .int .i64 a1, .int .i64 a2, .bool a3, .int .i64 a4, .int .i64 a5, .int .i64 a6, .int .i64 a7, .bool a8, .bool a9, .bool a10, .bool a11, .bool a12, .int .i64 a13] _ HRG.out Try.underlying49 rfl (by kernel_rfl) ?_
        simp only [put_lit, List.set]
        refine wpList_plain rfl fun K hK => ?_
        unfold Oper.wp execOp
        go_simp
        refine hK _ _ ?_
        clear hK K
        refine wpList_store_mid rfl 49 (.tmp 5) (.tmp 37) rfl wr.heap.size 0 #[.int .i64 do_, .int .i64 n, .int .i64 vm, .int .i64 asd, .int .i64 acc, .int .i64 a0, .int .i64 a1, .int .i64 a2, .bool a3, .int .i64 a4, .int .i64 a5, .int .i64 a6, .int .i64 a7, .bool a8, .bool a9, .bool a10, .bool a11, .bool a12, .int .i64 a13] rfl rfl (there_new wr #[.int .i64 0, .int .i64 0, .int .i64 0, .int .i64 0, .int .i64 0, .int .i64 0, .int .i64 0, .int .i64 0, .bool false, .int .i64 0, .int .i64 0, .int .i64 0, .int .i64 0, .bool false, .bool false, .bool false, .bool false, .bool false, .int .i64 0] actT) (by kernel_rfl) (by simp [Value.oneCell']) ?_
        simp only [put_lit_none]
        go_upto_region 8 with fail
        refine name_world ?_
        intro wy hwy
        have HAY := Lib.hid (show wy.heap[wr.heap.size]? = some (.cells #[.int .i64 do_, .int .i64 n, .int .i64 vm, .int .i64 asd, .int .i64 acc, .int .i64 a0, .int .i64 a1, .int .i64 a2, .bool a3, .int .i64 a4, .int .i64 a5, .int .i64 a6, .int .i64 a7, .bool a8, .bool a9, .bool a10, .bool a11, .bool a12, .int .i64 a13] actT (0, 0)) by rw [hwy]; exact heap_whole [.int .i64 do_, .int .i64 n, .int .i64 vm, .int .i64 asd, .int .i64 acc, .int .i64 a0, .int .i64 a1, .int .i64 a2, .bool a3, .int .i64 a4, .int .i64 a5, .int .i64 a6, .int .i64 a7, .bool a8, .bool a9, .bool a10, .bool a11, .bool a12, .int .i64 a13] (heap_new _ _) rfl)
        have HYW := Lib.hid (show Below wr.heap.size wr wy by rw [hwy]; exact below_cells (Nat.le_refl _) _ _ _ ((Below.refl _ _).alloc (Nat.le_refl _) _))
        have hsy : wy.heap.size = wr.heap.size + 1 := by rw [hwy, size_cells]; simp
        clear hwy t3 tf3
        have HXY := Lib.hid ((HYW.out.block _ hxt).trans HXT.out)
        have t3 := fun j => cell_of_row _ _ j _ _ _ HXY.out
        have tf3 := fun j => frozen_of_row _ _ j _ _ HXY.out
        go_wp2_with fail
        refine Calls.mono (HRT.out _ (by repeat' (first | (with_reducible exact Below.refl _ _) | (with_reducible (refine Below.setCell ?_ ?_ _)) | (with_reducible (refine Below.alloc ?_ ?_ _)) | (with_reducible (refine Below.drew ?_)) | (with_reducible (refine below_via ?_ HYW.out ?_)) | omega | (simp; done) | (simp; omega)))) ?_
        rintro e w4 ⟨rfl, hb4⟩
        have hs4 := hb4.size
        try simp at hs4
        have hc4_0 := fun o => (bcell hb4).1 (w2.heap.size) o (by first | omega | (simp; done) | (simp; omega))
        have hf4_0 := fun o => (bcell hb4).2.1 (w2.heap.size) o (by first | omega | (simp; done) | (simp; omega))
        have hz4_0 := (bcell hb4).2.2 (w2.heap.size) (by first | omega | (simp; done) | (simp; omega))
        have hc4_1 := fun o => (bcell hb4).1 (wr.heap.size) o (by first | omega | (simp; done) | (simp; omega))
        have hf4_1 := fun o => (bcell hb4).2.1 (wr.heap.size) o (by first | omega | (simp; done) | (simp; omega))
        have hz4_1 := (bcell hb4).2.2 (wr.heap.size) (by first | omega | (simp; done) | (simp; omega))
        have HB4 := Lib.hid hb4
        clear hb4
        go_wp2_with fail
        refine Calls.mono (HCP.out _ (by repeat' (first | (with_reducible exact Below.refl _ _) | (with_reducible (refine Below.setCell ?_ ?_ _)) | (with_reducible (refine Below.alloc ?_ ?_ _)) | (with_reducible (refine Below.drew ?_)) | (with_reducible (refine below_via ?_ HB4.out ?_)) | (with_reducible (refine below_via ?_ HYW.out ?_)) | omega | (simp; done) | (simp; omega)))) ?_
        rintro e w5 ⟨Ai, ci, Bi, di, rfl, ho5, hi5, hb5⟩
        have hs5 := hb5.size
        try simp at hs5
        have hc5_0 := fun o => (bcell hb5).1 (w2.heap.size) o (by first | omega | (simp; done) | (simp; omega))
        have hf5_0 := fun o => (bcell hb5).2.1 (w2.heap.size) o (by first | omega | (simp; done) | (simp; omega))
        have hz5_0 := (bcell hb5).2.2 (w2.heap.size) (by first | omega | (simp; done) | (simp; omega))
        have hc5_1 := fun o => (bcell hb5).1 (wr.heap.size) o (by first | omega | (simp; done) | (simp; omega))
        have hf5_1 := fun o => (bcell hb5).2.1 (wr.heap.size) o (by first | omega | (simp; done) | (simp; omega))
        have hz5_1 := (bcell hb5).2.2 (wr.heap.size) (by first | omega | (simp; done) | (simp; omega))
        have HB5 := Lib.hid hb5
        clear hb5
        have Hho5 := Lib.hid ho5
        clear ho5
        have Hhi5 := Lib.hid hi5
        clear hi5
        have HA5 := Lib.hid (show w5.heap[wr.heap.size]? = some (.cells #[.int .i64 do_, .int .i64 n, .int .i64 vm, .int .i64 asd, .int .i64 acc, .int .i64 a0, .int .i64 a1, .int .i64 a2, .bool a3, .int .i64 a4, .int .i64 a5, .int .i64 a6, .int .i64 a7, .bool a8, .bool a9, .bool a10, .bool a11, .bool a12, .int .i64 a13] actT (0, 0)) from (by repeat (first | (with_reducible assumption) | (with_reducible exact HAY.out) | (with_reducible refine heap_below_is HB5.out (by (first | omega | (simp; done) | (simp; omega))) ?_) | (with_reducible refine heap_below_is HB4.out (by (first | omega | (simp; done) | (simp; omega))) ?_) | (exact heap_at _ _ (by simp; done)) | (with_reducible refine heap_old_is _ _ (by (first | omega | (simp; done) | (simp; omega))) ?_) | (with_reducible refine heap_far_is (by (first | omega | (simp; done) | (simp; omega))) ?_))))
        clear hc4_0 hf4_0 hz4_0 hc4_1 hf4_1 hz4_1 hc5_0 hf5_0 hz5_0 hc5_1 hf5_1 hz5_1 t3 tf3
        go_upto_region 13 with fail
        refine name_world ?_
        intro wb hwb
        have hsb : wb.heap.size = w5.heap.size + 3 := by rw [hwb]; simp
        have HB5' := Lib.hid (show Below w5.heap.size w5 wb by rw [hwb]; repeat' (first | (with_reducible exact Below.refl _ _) | (with_reducible (refine Below.setCell ?_ ?_ _)) | (with_reducible (refine Below.alloc ?_ ?_ _)) | (with_reducible (refine Below.drew ?_)) | omega | (simp; done) | (simp; omega)))
        have HY3 := Lib.hid (show wb.heap[w2.heap.size]? = some (.cells #[.slice A es.length c, .slice B ds.length d] tlbT (0, 0)) from (HB5'.out.block _ (by omega)).trans (by repeat (first | (with_reducible assumption) | (with_reducible exact HXY.out) | (with_reducible refine heap_below_is HB5.out (by (first | omega | (simp; done) | (simp; omega))) ?_) | (with_reducible refine heap_below_is HB4.out (by (first | omega | (simp; done) | (simp; omega))) ?_) | (exact heap_at _ _ (by simp; done)) | (with_reducible refine heap_old_is _ _ (by (first | omega | (simp; done) | (simp; omega))) ?_) | (with_reducible refine heap_far_is (by (first | omega | (simp; done) | (simp; omega))) ?_))))
        have HY5 := Lib.hid (show wb.heap[wr.heap.size]? = some (.cells #[.int .i64 do_, .int .i64 n, .int .i64 vm, .int .i64 asd, .int .i64 acc, .int .i64 a0, .int .i64 a1, .int .i64 a2, .bool a3, .int .i64 a4, .int .i64 a5, .int .i64 a6, .int .i64 a7, .bool a8, .bool a9, .bool a10, .bool a11, .bool a12, .int .i64 a13] actT (0, 0)) from (HB5'.out.block _ (by omega)).trans HA5.out)
        have HY7 := Lib.hid (show wb.heap[w5.heap.size]? = some (.cells #[.slice Ai es.length ci, .slice Bi ds.length di] tlbT (0, 0)) by rw [hwb]; exact (heap_old _ _ (by simp; omega)).trans ((heap_old _ _ (by simp)).trans (heap_new _ _)))
        have HY9 := Lib.hid (show wb.heap[w5.heap.size + 1]? = some (.cells #[.slice none 0 0, .slice none 0 0] tlbT (0, 0)) by rw [hwb]; exact (heap_old _ _ (by simp)).trans (heap_at _ _ (by simp)))
        have HY10 := Lib.hid (show wb.heap[w5.heap.size + 1 + 1]? = some (.cells #[.slice none 0 0, .slice none 0 0] tlbT (0, 0)) by rw [hwb]; exact heap_at _ _ (by simp))
        have HIN := Lib.hid (fun W (hb : Below w5.heap.size wb W) => TlAt.below (TlAt.of_own Hho5.out Hhi5.out (by omega) (by omega)) (HB5'.out.trans hb))
        have HTB := Lib.hid (fun W (hb : Below w5.heap.size wb W) => HAT.out.below ((by repeat' (first | (with_reducible exact Below.refl _ _) | (with_reducible (refine Below.setCell ?_ ?_ _)) | (with_reducible (refine Below.alloc ?_ ?_ _)) | (with_reducible (refine Below.drew ?_)) | (with_reducible (refine below_via ?_ hb ?_)) | (with_reducible (refine below_via ?_ HB5'.out ?_)) | (with_reducible (refine below_via ?_ HB5.out ?_)) | (with_reducible (refine below_via ?_ HB4.out ?_)) | (with_reducible (refine below_via ?_ HYW.out ?_)) | omega | (simp; done) | (simp; omega))) : Below wr.heap.size wr W))
        have HBB := Lib.hid ((by repeat' (first | (with_reducible exact Below.refl _ _) | (with_reducible (refine Below.setCell ?_ ?_ _)) | (with_reducible (refine Below.alloc ?_ ?_ _)) | (with_reducible (refine Below.drew ?_)) | (with_reducible (refine below_via ?_ HB5'.out ?_)) | (with_reducible (refine below_via ?_ HB5.out ?_)) | (with_reducible (refine below_via ?_ HB4.out ?_)) | (with_reducible (refine below_via ?_ HYW.out ?_)) | (with_reducible (refine below_via ?_ HBW.out ?_)) | omega | (simp; done) | (simp; omega))) : Below w2.heap.size wo wb)
        have h3b := heap_lt HY3.out
        have h5b := heap_lt HY5.out
        have h7b := heap_lt HY7.out
        have h9b := heap_lt HY9.out
        have h10b := heap_lt HY10.out
        have y3 := fun j => cell_of_row _ _ j _ _ _ HY3.out
        have yf3 := fun j => frozen_of_row _ _ j _ _ HY3.out
        have y5 := fun j => cell_of_row _ _ j _ _ _ HY5.out
        have yf5 := fun j => frozen_of_row _ _ j _ _ HY5.out
        have y7 := fun j => cell_of_row _ _ j _ _ _ HY7.out
        have yf7 := fun j => frozen_of_row _ _ j _ _ HY7.out
        have y9 := fun j => cell_of_row _ _ j _ _ _ HY9.out
        have yf9 := fun j => frozen_of_row _ _ j _ _ HY9.out
        have y10 := fun j => cell_of_row _ _ j _ _ _ HY10.out
        have yf10 := fun j => frozen_of_row _ _ j _ _ HY10.out
        clear hwb e2 ef q12 HRT HCP Hho5 Hhi5 HB4 HB5 HA5
        go_upto_block 2 with (go_at_call 50; refine (HWI.out _).mono ?_; rintro e wb ⟨rfl, rfl⟩)
        obtain ⟨wx, rfl⟩ : ∃ wx : World, wx = wb := ⟨_, rfl⟩
        as_aux_lemma =>
        go_cut [8, 11] from 13 to 13 (fun v8 v11 wd => SwAt (w5.heap.size + 1) wx v8 v11 wd)
        case first =>
          have hne1 : wr.heap.size < w5.heap.size := by omega
          have hne2 : w2.heap.size < w5.heap.size := by omega
          have hne3 : w2.heap.size < wr.heap.size := by omega
          clear HLO HT0 HWA HNU hs1 hz1 hli1 hli2 hs2 HB2 HX3 HB HO3 HI3 hso hso1 hk hk20 HGK HXT HAT HBW hsw hxl hxt hlt hlt12 hki HBR HL HB1 HLI HX HXR hbe hbe2 HAI HRG HAY HYW hsy HXY hs4 hs5 HB5' HBB HWI hll
          by_cases d3 : dd = 3
          · subst d3
           
            as_aux_lemma =>
            have HNM := Lib.hid (fun W => num_any n ((es.length : Int) - 1) W)
            cases may
            · have HDN := Lib.hid (fun W (hb : Below w5.heap.size wx W) => Drop_no ⟨Ai, ci, es, Bi, di, ds⟩ n W (HIN.out W hb) HMY.out)
              dsimp only [Tl.cells] at HDN
              go_wp2_with fail
              refine Calls.mono (HDN.out _ (by repeat' (first | (with_reducible exact Below.refl _ _) | (with_reducible (refine Below.setCell ?_ ?_ _)) | (with_reducible (refine Below.alloc ?_ ?_ _)) | (with_reducible (refine Below.drew ?_)) | omega | (simp; done) | (simp; omega)))) ?_
              rintro e w6 ⟨rfl, hb6⟩
              have hs6 := hb6.size
              try simp at hs6
              have hc6_0 := fun o => (bcell hb6).1 (w5.heap.size + 1) o (by first | omega | (simp; done) | (simp; omega))
              have hf6_0 := fun o => (bcell hb6).2.1 (w5.heap.size + 1) o (by first | omega | (simp; done) | (simp; omega))
              have hz6_0 := (bcell hb6).2.2 (w5.heap.size + 1) (by first | omega | (simp; done) | (simp; omega))
              have hc6_1 := fun o => (bcell hb6).1 (w5.heap.size + 1 + 1) o (by first | omega | (simp; done) | (simp; omega))
              have hf6_1 := fun o => (bcell hb6).2.1 (w5.heap.size + 1 + 1) o (by first | omega | (simp; done) | (simp; omega))
              have hz6_1 := (bcell hb6).2.2 (w5.heap.size + 1 + 1) (by first | omega | (simp; done) | (simp; omega))
              have HB6 := Lib.hid hb6
              clear hb6
              go_wp2_with fail
              go_meet
              case rel => exact sw_none (heap_set_same (heap_set_same ((HB6.out.block _ h9b).trans HY9.out) 0 _) 1 _) (by repeat (first | (with_reducible assumption) | (with_reducible exact HY10.out) | (with_reducible refine heap_below_is HB6.out (by (first | omega | (simp; done) | (simp; omega))) ?_) | (exact heap_at _ _ (by simp; done)) | (with_reducible refine heap_old_is _ _ (by (first | omega | (simp; done) | (simp; omega))) ?_) | (with_reducible refine heap_far_is (by (first | omega | (simp; done) | (simp; omega))) ?_))) (by repeat' (first | (with_reducible exact Below.refl _ _) | (with_reducible (refine Below.setCell ?_ ?_ _)) | (with_reducible (refine Below.alloc ?_ ?_ _)) | (with_reducible (refine Below.drew ?_)) | (with_reducible (refine below_via ?_ HB6.out ?_)) | omega | (simp; done) | (simp; omega)))
            · obtain ⟨k1, k2, _, _⟩ := tlbOk_ents HMY.out
              cases hn : numOk n ((es.length : Int) - 1)
              · rw [hn] at HNM
                have HDN := Lib.hid (fun W (hb : Below w5.heap.size wx W) => Drop_none ⟨Ai, ci, es, Bi, di, ds⟩ n W (HIN.out W hb) HMY.out (num_out hn))
                dsimp only [Tl.cells] at HDN
                clear hn
                go_wp2_with (go_at_call 46; refine (HNM.out _).mono ?_; rintro e w' ⟨rfl, rfl⟩)
                refine Calls.mono (HDN.out _ (by repeat' (first | (with_reducible exact Below.refl _ _) | (with_reducible (refine Below.setCell ?_ ?_ _)) | (with_reducible (refine Below.alloc ?_ ?_ _)) | (with_reducible (refine Below.drew ?_)) | omega | (simp; done) | (simp; omega)))) ?_
                rintro e w6 ⟨rfl, hb6⟩
                have hs6 := hb6.size
                try simp at hs6
                have hc6_0 := fun o => (bcell hb6).1 (w5.heap.size + 1) o (by first | omega | (simp; done) | (simp; omega))
                have hf6_0 := fun o => (bcell hb6).2.1 (w5.heap.size + 1) o (by first | omega | (simp; done) | (simp; omega))
                have hz6_0 := (bcell hb6).2.2 (w5.heap.size + 1) (by first | omega | (simp; done) | (simp; omega))
                have hc6_1 := fun o => (bcell hb6).1 (w5.heap.size + 1 + 1) o (by first | omega | (simp; done) | (simp; omega))
                have hf6_1 := fun o => (bcell hb6).2.1 (w5.heap.size + 1 + 1) o (by first | omega | (simp; done) | (simp; omega))
                have hz6_1 := (bcell hb6).2.2 (w5.heap.size + 1 + 1) (by first | omega | (simp; done) | (simp; omega))
                have HB6 := Lib.hid hb6
                clear hb6
                go_wp2_with fail
                go_meet
                case rel => exact sw_none (heap_set_same (heap_set_same ((HB6.out.block _ h9b).trans HY9.out) 0 _) 1 _) (by repeat (first | (with_reducible assumption) | (with_reducible exact HY10.out) | (with_reducible refine heap_below_is HB6.out (by (first | omega | (simp; done) | (simp; omega))) ?_) | (exact heap_at _ _ (by simp; done)) | (with_reducible refine heap_old_is _ _ (by (first | omega | (simp; done) | (simp; omega))) ?_) | (with_reducible refine heap_far_is (by (first | omega | (simp; done) | (simp; omega))) ?_))) (by repeat' (first | (with_reducible exact Below.refl _ _) | (with_reducible (refine Below.setCell ?_ ?_ _)) | (with_reducible (refine Below.alloc ?_ ?_ _)) | (with_reducible (refine Below.drew ?_)) | (with_reducible (refine below_via ?_ HB6.out ?_)) | omega | (simp; done) | (simp; omega)))
              · rw [hn] at HNM
                obtain ⟨m, rfl, hm⟩ := num_in hn
                have HRD := Lib.hid (fun W (hb : Below w5.heap.size wx W) => rDrop_any ⟨A, c, es, B, d, ds⟩ m W (HTB.out W hb) (by dsimp only; omega) (by dsimp only; omega) hm)
                have HDY := Lib.hid (fun W (hb : Below w5.heap.size wx W) => Drop_yes ⟨Ai, ci, es, Bi, di, ds⟩ m W (HIN.out W hb) HMY.out hm)
                dsimp only [Tl.cells] at HRD HDY
                have hde : (dropE es m).length ≤ 8 := by unfold dropE; simp; omega
                generalize dropE es m = ex at *
                clear hn
                go_wp2_with (go_at_call 46; refine (HNM.out _).mono ?_; rintro e w' ⟨rfl, rfl⟩)
                refine Calls.mono (HRD.out _ (by repeat' (first | (with_reducible exact Below.refl _ _) | (with_reducible (refine Below.setCell ?_ ?_ _)) | (with_reducible (refine Below.alloc ?_ ?_ _)) | (with_reducible (refine Below.drew ?_)) | omega | (simp; done) | (simp; omega)))) ?_
                rintro e w6 ⟨Aw, cw, Bw, dw, rfl, how, hiw, hb6⟩
                have hs6 := hb6.size
                try simp at hs6
                have hc6_0 := fun o => (bcell hb6).1 (w5.heap.size) o (by first | omega | (simp; done) | (simp; omega))
                have hf6_0 := fun o => (bcell hb6).2.1 (w5.heap.size) o (by first | omega | (simp; done) | (simp; omega))
                have hz6_0 := (bcell hb6).2.2 (w5.heap.size) (by first | omega | (simp; done) | (simp; omega))
                have hc6_1 := fun o => (bcell hb6).1 (wr.heap.size) o (by first | omega | (simp; done) | (simp; omega))
                have hf6_1 := fun o => (bcell hb6).2.1 (wr.heap.size) o (by first | omega | (simp; done) | (simp; omega))
                have hz6_1 := (bcell hb6).2.2 (wr.heap.size) (by first | omega | (simp; done) | (simp; omega))
                have hc6_2 := fun o => (bcell hb6).1 (w5.heap.size + 1) o (by first | omega | (simp; done) | (simp; omega))
                have hf6_2 := fun o => (bcell hb6).2.1 (w5.heap.size + 1) o (by first | omega | (simp; done) | (simp; omega))
                have hz6_2 := (bcell hb6).2.2 (w5.heap.size + 1) (by first | omega | (simp; done) | (simp; omega))
                have hc6_3 := fun o => (bcell hb6).1 (w5.heap.size + 1 + 1) o (by first | omega | (simp; done) | (simp; omega))
                have hf6_3 := fun o => (bcell hb6).2.1 (w5.heap.size + 1 + 1) o (by first | omega | (simp; done) | (simp; omega))
                have hz6_3 := (bcell hb6).2.2 (w5.heap.size + 1 + 1) (by first | omega | (simp; done) | (simp; omega))
                have HB6 := Lib.hid hb6
                clear hb6
                have Hhow := Lib.hid how
                clear how
                have Hhiw := Lib.hid hiw
                clear hiw
                go_wp2_with fail
                refine Calls.mono (HDY.out _ (by repeat' (first | (with_reducible exact Below.refl _ _) | (with_reducible (refine Below.setCell ?_ ?_ _)) | (with_reducible (refine Below.alloc ?_ ?_ _)) | (with_reducible (refine Below.drew ?_)) | (with_reducible (refine below_via ?_ HB6.out ?_)) | omega | (simp; done) | (simp; omega)))) ?_
                rintro e w7 ⟨Ax, cx, Bx, dx, rfl, hox, hix, hb7⟩
                have hs7 := hb7.size
                try simp at hs7
                have hc7_0 := fun o => (bcell hb7).1 (w5.heap.size + 1) o (by first | omega | (simp; done) | (simp; omega))
                have hf7_0 := fun o => (bcell hb7).2.1 (w5.heap.size + 1) o (by first | omega | (simp; done) | (simp; omega))
                have hz7_0 := (bcell hb7).2.2 (w5.heap.size + 1) (by first | omega | (simp; done) | (simp; omega))
                have hc7_1 := fun o => (bcell hb7).1 (w5.heap.size + 1 + 1) o (by first | omega | (simp; done) | (simp; omega))
                have hf7_1 := fun o => (bcell hb7).2.1 (w5.heap.size + 1 + 1) o (by first | omega | (simp; done) | (simp; omega))
                have hz7_1 := (bcell hb7).2.2 (w5.heap.size + 1 + 1) (by first | omega | (simp; done) | (simp; omega))
                have HB7 := Lib.hid hb7
                clear hb7
                have Hhox := Lib.hid hox
                clear hox
                have Hhix := Lib.hid hix
                clear hix
                go_wp2_with fail
                go_meet
                case rel => exact sw_some h9b h10b HY9.out HY10.out HB6.out rfl HB7.out Hhow.out Hhiw.out Hhox.out Hhix.out (by omega) (by omega)
          · rcases (show dd = 4 ∨ dd = 5 ∨ dd = 6 ∨ ¬ (dd = 4 ∨ dd = 5 ∨ dd = 6) by omega) with d4 | d5 | d6 | dn
            · subst d4
             
              as_aux_lemma =>
              have hwc5 : w5.heap.size + 3 ≤ wx.heap.size := by omega
              clear hsb
              obtain ⟨r, x, ix, hpc, hpp, hfa⟩ := whole_all es ds Ai A ci c Bi B di d vm asd a4 acc
              obtain ⟨r0, r1, r2, r3, r4, r5, r6, r7, r8, r9, r10, r11, r12, r13⟩ := r
              dsimp only [Ent.cells] at hpc
              have HPC := Lib.hid hpc
              have HPP := Lib.hid hpp
              have HFA := Lib.hid hfa
              clear hpc hpp hfa
              have HTG := Lib.hid (fun i W => tag_any i W)
              have HPG := Lib.hid (fun i W => page_any i W)
              have HAC := Lib.hid (fun i W => acc_any i W)
              go_upto_region 29 with fail
              refine name_world ?_
              intro wz hwz
             
              have hsz : wz.heap.size = wx.heap.size + 2 := by rw [hwz]; simp
              have HBZ := Lib.hid (show Below wx.heap.size wx wz by rw [hwz]; repeat' (first | (with_reducible exact Below.refl _ _) | (with_reducible (refine Below.setCell ?_ ?_ _)) | (with_reducible (refine Below.alloc ?_ ?_ _)) | (with_reducible (refine Below.drew ?_)) | omega | (simp; done) | (simp; omega)))
              have HZy := Lib.hid (show wz.heap[wx.heap.size]? = some (.cells #[.int .i64 0, .int .i64 0, .int .i64 0, .bool false, .int .i64 0, .int .i64 0, .int .i64 0, .int .i64 0, .bool false, .bool false, .bool false, .bool false, .bool false, .int .i64 0] entT (0, 0)) by rw [hwz]; exact (heap_old _ _ (by simp)).trans (heap_new _ _))
              have HZd := Lib.hid (show wz.heap[wx.heap.size + 1]? = some (.cells #[.int .i64 0, .int .i64 0, .int .i64 0, .bool false, .int .i64 0, .int .i64 0, .int .i64 0, .int .i64 0, .bool false, .bool false, .bool false, .bool false, .bool false, .int .i64 0] entT (0, 0)) by rw [hwz]; exact heap_at _ _ (by simp))
              clear hwz y3 yf3 y5 yf5 y7 yf7 y9 yf9 y10 yf10
              have HZ3 := Lib.hid ((HBZ.out.block _ h3b).trans HY3.out)
              have HZ5 := Lib.hid ((HBZ.out.block _ h5b).trans HY5.out)
              have HZ7 := Lib.hid ((HBZ.out.block _ h7b).trans HY7.out)
              have z5 := fun j => cell_of_row _ _ j _ _ _ HZ5.out
              have zf5 := fun j => frozen_of_row _ _ j _ _ HZ5.out
              have z7 := fun j => cell_of_row _ _ j _ _ _ HZ7.out
              have zf7 := fun j => frozen_of_row _ _ j _ _ HZ7.out
              have zy := fun j => cell_of_row _ _ j _ _ _ HZy.out
              have zfy := fun j => frozen_of_row _ _ j _ _ HZy.out
             
              go_cut [16] from 88 to 88 (fun v W => v = .bool (numOk vm 15 && numOk a4 4095) ∧ wz = W)
              case first =>
                cases f1 : numOk vm 15
                · go_wp2_with (first | (go_at_call 53; refine (HTG.out _ _).mono ?_; rintro e w' ⟨rfl, rfl⟩) | (go_at_call 54; refine (HPG.out _ _).mono ?_; rintro e w' ⟨rfl, rfl⟩) | (go_at_call 56; refine (HAC.out _ _).mono ?_; rintro e w' ⟨rfl, rfl⟩))
                  go_meet
                  case rel => exact ⟨by simp [f1], rfl⟩
                · go_wp2_with (first | (go_at_call 53; refine (HTG.out _ _).mono ?_; rintro e w' ⟨rfl, rfl⟩) | (go_at_call 54; refine (HPG.out _ _).mono ?_; rintro e w' ⟨rfl, rfl⟩) | (go_at_call 56; refine (HAC.out _ _).mono ?_; rintro e w' ⟨rfl, rfl⟩))
                  go_meet
                  case rel => exact ⟨by simp [f1], rfl⟩
              case rest =>
                obtain ⟨rfl, rfl⟩ := hcut
                obtain ⟨f0, hf0⟩ : ∃ b, (numOk vm 15 && numOk a4 4095) = b := ⟨_, rfl⟩
                rw [hf0] at HFA HPP ⊢
                clear hf0
                go_upto_block 3 with fail
                go_cut [11, 16] from 98 to 98 (fun u v W => u = .int .i64 x ∧ v = .bool ((f0 && numOk asd 15) && accOk acc) ∧ W.heap[wx.heap.size]? = some (.cells #[.int .i64 r0, .int .i64 r1, .int .i64 r2, .bool r3, .int .i64 r4, .int .i64 r5, .int .i64 r6, .int .i64 r7, .bool r8, .bool r9, .bool r10, .bool r11, .bool r12, .int .i64 r13] entT (0, 0)) ∧ W.heap[wx.heap.size + 1]? = some (.cells #[.int .i64 0, .int .i64 0, .int .i64 0, .bool false, .int .i64 0, .int .i64 0, .int .i64 0, .int .i64 0, .bool false, .bool false, .bool false, .bool false, .bool false, .int .i64 0] entT (0, 0)) ∧ Below wx.heap.size wx W)
                case first =>
                  go_upto_region 32 with fail
                 
                  refine wp_region_lit ?_
                  refine wpList_plain rfl fun K hK => ?_
                  unfold Oper.wp execOp
                  go_simp
                  refine hK _ _ ?_
                  clear hK K
                  refine wpList_plain rfl fun K hK => ?_
                  unfold Oper.wp execOp
                  go_simp
                  refine hK _ _ ?_
                  clear hK K
                  refine wpList_plain rfl fun K hK => ?_
                  unfold Oper.wp execOp
                  go_simp
                  refine hK _ _ ?_
                  clear hK K
                  refine wpList_plain rfl fun K hK => ?_
                  unfold Oper.wp execOp
                  go_simp
                  refine hK _ _ ?_
                  clear hK K
                  refine wpList_plain rfl fun K hK => ?_
                  unfold Oper.wp execOp
                  go_simp
                  refine hK _ _ ?_
                  clear hK K
                  refine wpList_plain rfl fun K hK => ?_
                  unfold Oper.wp execOp
                  go_simp
                  refine hK _ _ ?_
                  clear hK K
                  refine wpList_plain rfl fun K hK => ?_
                  unfold Oper.wp execOp
                  go_simp
                  refine hK _ _ ?_
                  clear hK K
                  refine wpList_plain rfl fun K hK => ?_
                  unfold Oper.wp execOp
                  go_simp
                  refine hK _ _ ?_
                  clear hK K
                  refine wpList_plain rfl fun K hK => ?_
                  unfold Oper.wp execOp
                  go_simp
                  refine hK _ _ ?_
                  clear hK K
                  refine wpList_plain rfl fun K hK => ?_
                  unfold Oper.wp execOp
                  go_simp
                  refine hK _ _ ?_
                  clear hK K
                  refine wpList_plain rfl fun K hK => ?_
                  unfold Oper.wp execOp
                  go_simp
                 
                  refine Calls.mono (HPC.out _ (HIN.out _ (by repeat' (first | (with_reducible exact Below.refl _ _) | (with_reducible (refine Below.setCell ?_ ?_ _)) | (with_reducible (refine Below.alloc ?_ ?_ _)) | (with_reducible (refine Below.drew ?_)) | (with_reducible (refine below_via ?_ HBZ.out ?_)) | omega | (simp; done) | (simp; omega))))) ?_
                  rintro e w6 ⟨rfl, hb6⟩
                  have hs6 := hb6.size
                  try simp at hs6
                  have hc6_0 := fun o => (bcell hb6).1 (wx.heap.size) o (by first | omega | (simp; done) | (simp; omega))
                  have hf6_0 := fun o => (bcell hb6).2.1 (wx.heap.size) o (by first | omega | (simp; done) | (simp; omega))
                  have hz6_0 := (bcell hb6).2.2 (wx.heap.size) (by first | omega | (simp; done) | (simp; omega))
                  have HB6 := Lib.hid hb6
                  clear hb6
                 
                  go_simp
                  refine hK _ _ ?_
                  clear hK K
                  refine wpList_plain rfl fun K hK => ?_
                  unfold Oper.wp execOp
                  go_simp
                  refine hK _ _ ?_
                  clear hK K
                  refine wpList_plain rfl fun K hK => ?_
                  unfold Oper.wp execOp
                  go_simp
                  refine hK _ _ ?_
                  clear hK K
                  refine wpList_plain rfl fun K hK => ?_
                  unfold Oper.wp execOp
                  go_simp
                  refine hK _ _ ?_
                  clear hK K
                  refine wpList_store_mid rfl 36 (.tmp 13) (.tmp 112) rfl wx.heap.size 0 #[.int .i64 r0, .int .i64 r1, .int .i64 r2, .bool r3, .int .i64 r4, .int .i64 r5, .int .i64 r6, .int .i64 r7, .bool r8, .bool r9, .bool r10, .bool r11, .bool r12, .int .i64 r13] rfl rfl (there_row #[.int .i64 0, .int .i64 0, .int .i64 0, .bool false, .int .i64 0, .int .i64 0, .int .i64 0, .int .i64 0, .bool false, .bool false, .bool false, .bool false, .bool false, .int .i64 0] entT ((HB6.out.block _ (by omega)).trans HZy.out)) (by kernel_rfl) (by simp [Value.oneCell']) ?_
                  simp only [put_lit_none]
                 
                  go_upto_region 33 with fail
                  refine name_world ?_
                  intro wy hwy
                 
                  have hsy : wy.heap.size = w6.heap.size := by rw [hwy, size_cells]
                  have HWy := Lib.hid (show wy.heap[wx.heap.size]? = some (.cells #[.int .i64 r0, .int .i64 r1, .int .i64 r2, .bool r3, .int .i64 r4, .int .i64 r5, .int .i64 r6, .int .i64 r7, .bool r8, .bool r9, .bool r10, .bool r11, .bool r12, .int .i64 r13] entT (0, 0)) by rw [hwy]; exact heap_whole [.int .i64 r0, .int .i64 r1, .int .i64 r2, .bool r3, .int .i64 r4, .int .i64 r5, .int .i64 r6, .int .i64 r7, .bool r8, .bool r9, .bool r10, .bool r11, .bool r12, .int .i64 r13] ((HB6.out.block _ (by omega)).trans HZy.out) rfl)
                  have HWd := Lib.hid (show wy.heap[wx.heap.size + 1]? = some (.cells #[.int .i64 0, .int .i64 0, .int .i64 0, .bool false, .int .i64 0, .int .i64 0, .int .i64 0, .int .i64 0, .bool false, .bool false, .bool false, .bool false, .bool false, .int .i64 0] entT (0, 0)) by rw [hwy]; exact (heap_cells (by omega) _ _ _).trans ((HB6.out.block _ (by omega)).trans HZd.out))
                  have HW5 := Lib.hid (show wy.heap[wr.heap.size]? = some (.cells #[.int .i64 do_, .int .i64 n, .int .i64 vm, .int .i64 asd, .int .i64 acc, .int .i64 a0, .int .i64 a1, .int .i64 a2, .bool a3, .int .i64 a4, .int .i64 a5, .int .i64 a6, .int .i64 a7, .bool a8, .bool a9, .bool a10, .bool a11, .bool a12, .int .i64 a13] actT (0, 0)) by rw [hwy]; exact (heap_cells (by omega) _ _ _).trans ((HB6.out.block _ (by omega)).trans HZ5.out))
                  have HW3 := Lib.hid (show wy.heap[w2.heap.size]? = some (.cells #[.slice A es.length c, .slice B ds.length d] tlbT (0, 0)) by rw [hwy]; exact (heap_cells (by omega) _ _ _).trans ((HB6.out.block _ (by omega)).trans HZ3.out))
                  have HBY := Lib.hid (show Below wx.heap.size wx wy by rw [hwy]; exact below_cells (Nat.le_refl _) _ _ _ (by repeat' (first | (with_reducible exact Below.refl _ _) | (with_reducible (refine Below.setCell ?_ ?_ _)) | (with_reducible (refine Below.alloc ?_ ?_ _)) | (with_reducible (refine Below.drew ?_)) | (with_reducible (refine below_via ?_ HB6.out ?_)) | (with_reducible (refine below_via ?_ HBZ.out ?_)) | omega | (simp; done) | (simp; omega))))
                  have HW9 := Lib.hid ((HBY.out.block _ h9b).trans HY9.out)
                  have HW10 := Lib.hid ((HBY.out.block _ h10b).trans HY10.out)
                 
                  clear hwy z5 zf5 z7 zf7 zy zfy hc6_0 hf6_0 hz6_0
                  have z5 := fun j => cell_of_row _ _ j _ _ _ HW5.out
                  have zf5 := fun j => frozen_of_row _ _ j _ _ HW5.out
                  cases f0
                  · go_wp2_with fail
                    go_meet
                    case rel => exact ⟨rfl, rfl, HWy.out, HWd.out, HBY.out⟩
                  · cases f2 : numOk asd 15
                    · go_wp2_with (first | (go_at_call 53; refine (HTG.out _ _).mono ?_; rintro e w' ⟨rfl, rfl⟩) | (go_at_call 54; refine (HPG.out _ _).mono ?_; rintro e w' ⟨rfl, rfl⟩) | (go_at_call 56; refine (HAC.out _ _).mono ?_; rintro e w' ⟨rfl, rfl⟩))
                      go_meet
                      case rel => exact ⟨rfl, by simp [f2], HWy.out, HWd.out, HBY.out⟩
                    · go_wp2_with (first | (go_at_call 53; refine (HTG.out _ _).mono ?_; rintro e w' ⟨rfl, rfl⟩) | (go_at_call 54; refine (HPG.out _ _).mono ?_; rintro e w' ⟨rfl, rfl⟩) | (go_at_call 56; refine (HAC.out _ _).mono ?_; rintro e w' ⟨rfl, rfl⟩))
                      go_meet
                      case rel => exact ⟨rfl, by simp [f2], HWy.out, HWd.out, HBY.out⟩
                case rest =>
                  obtain ⟨rfl, rfl, hwy, hwd, hby⟩ := hcut
                  obtain ⟨wy, rfl⟩ : ∃ wy : World, wy = wc := ⟨_, rfl⟩
                 
                  have HWy := Lib.hid hwy
                  have HWd := Lib.hid hwd
                  have HBY := Lib.hid hby
                  have hsy := hby.size
                  clear hwy hwd hby z5 zf5 z7 zf7 zy zfy
                  have HW5 := Lib.hid ((HBY.out.block _ h5b).trans HY5.out)
                  have HW3 := Lib.hid ((HBY.out.block _ h3b).trans HY3.out)
                  have HW9 := Lib.hid ((HBY.out.block _ h9b).trans HY9.out)
                  have HW10 := Lib.hid ((HBY.out.block _ h10b).trans HY10.out)
                  have z3 := fun j => cell_of_row _ _ j _ _ _ HW3.out
                  have zf3 := fun j => frozen_of_row _ _ j _ _ HW3.out
                  have z5 := fun j => cell_of_row _ _ j _ _ _ HW5.out
                  have zf5 := fun j => frozen_of_row _ _ j _ _ HW5.out
                  obtain ⟨is_, his⟩ : ∃ b, ((f0 && numOk asd 15) && accOk acc) = b := ⟨_, rfl⟩
                  rw [his] at HFA HPP ⊢
                  clear his
                  rw [HMY.out] at HFA HPP
                  have h3y := heap_lt HW3.out
                  have hdy := heap_lt HWd.out
                  go_upto_region 40 with fail
                  go_cut [168] from 165 to 165 (fun v W => v = .bool (may && is_) ∧ wy = W)
                  case first =>
                    cases may
                    · go_wp2_with fail
                      go_meet
                      case rel => exact ⟨rfl, rfl⟩
                    · go_wp2_with fail
                      go_meet
                      case rel => exact ⟨rfl, rfl⟩
                  case rest =>
                    obtain ⟨rfl, rfl⟩ := hcut
                    obtain ⟨g, hg⟩ : ∃ b, (may && is_) = b := ⟨_, rfl⟩
                    rw [hg] at HFA HPP ⊢
                    clear hg
                   
                    go_upto_if 168 with fail
                    go_cut [8, 15] from 170 to 170 (fun v _ W => v = .int .i64 x ∧ W.heap[wx.heap.size]? = some (.cells #[.int .i64 r0, .int .i64 r1, .int .i64 r2, .bool r3, .int .i64 r4, .int .i64 r5, .int .i64 r6, .int .i64 r7, .bool r8, .bool r9, .bool r10, .bool r11, .bool r12, .int .i64 r13] entT (0, 0)) ∧ W.heap[wx.heap.size + 1]? = some (.cells #[.int .i64 r0, .int .i64 r1, .int .i64 r2, .bool r3, .int .i64 r4, .int .i64 r5, .int .i64 r6, .int .i64 r7, .bool r8, .bool r9, .bool r10, .bool r11, .bool r12, .int .i64 r13] entT (0, 0)) ∧ Below wx.heap.size wx W)
                    case first =>
                     
                      cases g
                      · rcases HFA.out with ⟨_, hr, rfl⟩ | ⟨hyes, _⟩
                        · simp only [noEnt, Ent.mk.injEq] at hr
                          obtain ⟨rfl, rfl, rfl, rfl, rfl, rfl, rfl, rfl, rfl, rfl, rfl, rfl, rfl, rfl⟩ := hr
                          clear HPC HPP HFA
                          go_wp2_with fail
                          go_meet
                          case rel => exact ⟨rfl, HWy.out, HWd.out, HBY.out⟩
                        · exact Bool.noConfusion hyes
                      · rcases HFA.out with ⟨hno, _⟩ | ⟨_, hf⟩
                        · exact Bool.noConfusion hno
                        have HPQ := Lib.hid (HPP.out rfl)
                        have HF := Lib.hid hf
                        clear hf HPC HPP HFA
                        go_wp2_with fail
                        refine Calls.mono (HPQ.out _ (HTB.out _ (by repeat' (first | (with_reducible exact Below.refl _ _) | (with_reducible (refine Below.setCell ?_ ?_ _)) | (with_reducible (refine Below.alloc ?_ ?_ _)) | (with_reducible (refine Below.drew ?_)) | (with_reducible (refine below_via ?_ HBY.out ?_)) | omega | (simp; done) | (simp; omega))))) ?_
                        rintro e w7 ⟨rfl, hb7⟩
                        have hs7 := hb7.size
                        try simp at hs7
                        have hc7_0 := fun o => (bcell hb7).1 (w2.heap.size) o (by first | omega | (simp; done) | (simp; omega))
                        have hf7_0 := fun o => (bcell hb7).2.1 (w2.heap.size) o (by first | omega | (simp; done) | (simp; omega))
                        have hz7_0 := (bcell hb7).2.2 (w2.heap.size) (by first | omega | (simp; done) | (simp; omega))
                        have HB7 := Lib.hid hb7
                        clear hb7
                       
                        rcases HF.out with ⟨rfl, hr, rfl⟩ | ⟨m, hm, rfl, hr, rfl⟩
                        · simp only [noEnt, Ent.mk.injEq] at hr
                          obtain ⟨rfl, rfl, rfl, rfl, rfl, rfl, rfl, rfl, rfl, rfl, rfl, rfl, rfl, rfl⟩ := hr
                          clear HF
                          go_wp2_with fail
                          go_meet
                          case rel => exact ⟨rfl, (HB7.out.block _ (by omega)).trans HWy.out, (HB7.out.block _ (by omega)).trans HWd.out, (by repeat' (first | (with_reducible exact Below.refl _ _) | (with_reducible (refine Below.setCell ?_ ?_ _)) | (with_reducible (refine Below.alloc ?_ ?_ _)) | (with_reducible (refine Below.drew ?_)) | (with_reducible (refine below_via ?_ HB7.out ?_)) | (with_reducible (refine below_via ?_ HBY.out ?_)) | omega | (simp; done) | (simp; omega)))⟩
                        · clear HF
                          obtain ⟨be, oe, rfl, hbe, hce⟩ := at_cells (HTB.out wx (Below.refl _ _)).eat (Below.refl _ _) hm
                          rw [hr] at hce
                          dsimp only [Ent.cells] at hce
                          have HB8 := Lib.hid (show Below wx.heap.size wx w7 from (by repeat' (first | (with_reducible exact Below.refl _ _) | (with_reducible (refine Below.setCell ?_ ?_ _)) | (with_reducible (refine Below.alloc ?_ ?_ _)) | (with_reducible (refine Below.drew ?_)) | (with_reducible (refine below_via ?_ HB7.out ?_)) | (with_reducible (refine below_via ?_ HBY.out ?_)) | omega | (simp; done) | (simp; omega))))
                          have HRE := Lib.hid (range_below (show wx.rangeAt be (oe + m * 14) [.int .i64 r0, .int .i64 r1, .int .i64 r2, .bool r3, .int .i64 r4, .int .i64 r5, .int .i64 r6, .int .i64 r7, .bool r8, .bool r9, .bool r10, .bool r11, .bool r12, .int .i64 r13] from hce) HB8.out hbe)
                          clear hce hr
                          have hmi : (m : Int) < es.length := by omega
                          go_upto_region 50 with fail
                          have hg1 : be < wx.heap.size + 1 := by omega
                          have hg2 : w2.heap.size < wx.heap.size + 1 := by omega
                         
                          refine wp_region_done (fun d w9 => PutC (w7) (wx.heap.size + 1) 6 (entT) (#[.int .i64 0, .int .i64 0, .int .i64 0, .bool false, .int .i64 0, .int .i64 0, .int .i64 0, .int .i64 0, .bool false, .bool false, .bool false, .bool false, .bool false, .int .i64 0]) (#[.int .i64 r0, .int .i64 r1, .int .i64 r2, .bool r3, .int .i64 r4, .int .i64 r5, .int .i64 r6, .int .i64 r7, .bool r8, .bool r9, .bool r10, .bool r11, .bool r12, .int .i64 r13]) d w9) (by kernel_rfl) (by kernel_rfl) (putC_start (((HB7.out.block _ (by omega)).trans HWd.out))) ?_
                          repeat (first
                            | (refine wpLex_putc (by rfl) (by rfl) ?_
                               apply Exists.intro
                               refine ⟨?_, ?_⟩
                               · intro w' hb
                                 exact upon_load_mid 36 (.tmp 210) rfl (be) (oe + m * 14) rfl [.int .i64 r0, .int .i64 r1, .int .i64 r2, .bool r3, .int .i64 r4, .int .i64 r5, .int .i64 r6, .int .i64 r7, .bool r8, .bool r9, .bool r10, .bool r11, .bool r12, .int .i64 r13] _ (range_below (HRE.out) hb (by omega)) Try.underlying36 rfl (by kernel_rfl) ⟨rfl, Below.refl _ _⟩
                               conv => arg 9; simp only [put_lit, put_lit_none, List.set])
                            | (refine wpLex_putst (by rfl) (by rfl) undef ?_ ?_
                               · intro w' hb hz
                                 exact upon_store_mid 36 (.tmp 14) (.tmp 211) rfl (wx.heap.size + 1) 0 #[.int .i64 r0, .int .i64 r1, .int .i64 r2, .bool r3, .int .i64 r4, .int .i64 r5, .int .i64 r6, .int .i64 r7, .bool r8, .bool r9, .bool r10, .bool r11, .bool r12, .int .i64 r13] rfl rfl (there_row #[.int .i64 0, .int .i64 0, .int .i64 0, .bool false, .int .i64 0, .int .i64 0, .int .i64 0, .int .i64 0, .bool false, .bool false, .bool false, .bool false, .bool false, .int .i64 0] entT hz) (by kernel_rfl) (by simp [Value.oneCell']) ⟨rfl, below_cells (Nat.le_refl _) _ _ _ (Below.refl _ _), heap_whole [.int .i64 r0, .int .i64 r1, .int .i64 r2, .bool r3, .int .i64 r4, .int .i64 r5, .int .i64 r6, .int .i64 r7, .bool r8, .bool r9, .bool r10, .bool r11, .bool r12, .int .i64 r13] hz rfl⟩
                               conv => arg 9; simp only [put_lit, put_lit_none, List.set])
                            | (refine wpLex_pass (by rfl) (passes_done fun d w _ hc => putC_step hc (Below.refl _ _) (by rfl)) ?_; (conv => arg 9; simp only [put_lit, put_lit_none, List.set]))
                            | (refine wpLex_putc (by rfl) (by rfl) ?_
                               apply Exists.intro
                               refine ⟨?_, ?_⟩
                               · intro w' hb
                                 have hsz := hb.size
                                 try simp at hsz
                                 have hcw := fun b o (h : b < wx.heap.size + 1) => hb.cell (p := ⟨b, o, none⟩) h
                                 have hfw := fun b o (h : b < wx.heap.size + 1) => hb.frozen (p := ⟨b, o, none⟩) h
                                 go_simp
                                 first
                                   | exact ⟨rfl, Below.refl _ _⟩
                                   | exact Below.refl _ _
                               conv => arg 9; simp only [put_lit, put_lit_none, List.set])
                            | (refine wpLex_putst (by rfl) (by rfl) undef ?_ ?_
                               · intro w' hb hz
                                 have hcw := fun b o (h : b < wx.heap.size + 1) => hb.cell (p := ⟨b, o, none⟩) h
                                 have hzc := fun j => cell_of_row _ _ j _ _ _ hz
                                 have hzf := fun j => frozen_of_row _ _ j _ _ hz
                                 go_simp
                                 first
                                   | exact ⟨(by repeat' (first | (with_reducible exact Below.refl _ _) | (with_reducible (refine Below.setCell ?_ ?_ _)) | omega | (simp; done))), heap_set_same hz _ _⟩
                               conv => arg 9; simp only [put_lit, put_lit_none, List.set]))
                          refine wpLex_nil ?_
                          intro wp dp hdp hCp
                          obtain ⟨hbp, hxp⟩ := putC_done hCp (hdp 6 (by decide))
                          clear hCp hdp
                          have hsp := heap_lt hxp
                          have hcp := fun b o (h : b < wx.heap.size + 1) => hbp.cell (p := ⟨b, o, none⟩) h
                          have hfp := fun b o (h : b < wx.heap.size + 1) => hbp.frozen (p := ⟨b, o, none⟩) h
                          have hxcp := fun j => cell_of_row _ _ j _ _ _ hxp
                          have hxfp := fun j => frozen_of_row _ _ j _ _ hxp
                          have HBp := Lib.hid hbp
                          have HXp := Lib.hid hxp
                          clear hbp hxp
                          have hn1 : wx.heap.size < wx.heap.size + 1 := by omega
                         
                          clear hcp hfp
                          repeat go_step
                         
                          go_meet
                         
                          case rel => exact ⟨rfl, (HBp.out.block _ hn1).trans ((HB7.out.block _ (by omega)).trans HWy.out), HXp.out, (by repeat' (first | (with_reducible exact Below.refl _ _) | (with_reducible (refine Below.setCell ?_ ?_ _)) | (with_reducible (refine Below.alloc ?_ ?_ _)) | (with_reducible (refine Below.drew ?_)) | (with_reducible (refine below_via ?_ HBp.out ?_)) | (with_reducible (refine below_via ?_ HB7.out ?_)) | (with_reducible (refine below_via ?_ HBY.out ?_)) | omega | (simp; done) | (simp; omega)))⟩
                    case rest =>
                      obtain ⟨rfl, hty, htd, htb⟩ := hcut
                      obtain ⟨wt, rfl⟩ : ∃ wt : World, wt = wc := ⟨_, rfl⟩
                     
                      have HTY := Lib.hid (range_row [.int .i64 r0, .int .i64 r1, .int .i64 r2, .bool r3, .int .i64 r4, .int .i64 r5, .int .i64 r6, .int .i64 r7, .bool r8, .bool r9, .bool r10, .bool r11, .bool r12, .int .i64 r13] hty)
                      have HTD := Lib.hid (range_row [.int .i64 r0, .int .i64 r1, .int .i64 r2, .bool r3, .int .i64 r4, .int .i64 r5, .int .i64 r6, .int .i64 r7, .bool r8, .bool r9, .bool r10, .bool r11, .bool r12, .int .i64 r13] htd)
                      have HTB2 := Lib.hid htb
                      have he := fun W => run_neq_ent r0 r1 r2 r3 r4 r5 r6 r7 r8 r9 r10 r11 r12 r13 r0 r1 r2 r3 r4 r5 r6 r7 r8 r9 r10 r11 r12 r13 W
                      rw [entEq_refl] at he
                      simp only [Bool.not_true] at he
                      clear HPC HPP HFA HWy HWd HW5 HW3 HW9 HW10 hty htd htb z3 zf3 z5 zf5 HY3 HY5 HY7 HIN HTB HMY HTG HPG HAC
                      go_upto_region 51 with fail
                      refine wp_region_lit ?_
                      refine wpList_load_mid rfl 36 (.tmp 13) rfl wx.heap.size 0 rfl [.int .i64 r0, .int .i64 r1, .int .i64 r2, .bool r3, .int .i64 r4, .int .i64 r5, .int .i64 r6, .int .i64 r7, .bool r8, .bool r9, .bool r10, .bool r11, .bool r12, .int .i64 r13] _ HTY.out Try.underlying36 rfl (by kernel_rfl) ?_
                      simp only [put_lit, List.set]
                      refine wpList_load_mid rfl 36 (.tmp 14) rfl (wx.heap.size + 1) 0 rfl [.int .i64 r0, .int .i64 r1, .int .i64 r2, .bool r3, .int .i64 r4, .int .i64 r5, .int .i64 r6, .int .i64 r7, .bool r8, .bool r9, .bool r10, .bool r11, .bool r12, .int .i64 r13] _ HTD.out Try.underlying36 rfl (by kernel_rfl) ?_
                      simp only [put_lit, List.set]
                      go_wp2_with fail
                      go_meet
                      case rel => exact sw_none ((HTB2.out.block _ h9b).trans HY9.out) ((HTB2.out.block _ h10b).trans HY10.out) (HTB2.out.mono (by omega))
            · subst d5
             
              as_aux_lemma =>
              have hwc5 : w5.heap.size + 3 ≤ wx.heap.size := by omega
              clear hsb
              obtain ⟨r, x, ix, hpc, hpp, hfa⟩ := mid_all es ds Ai A ci c Bi B di d vm a4 acc
              obtain ⟨r0, r1, r2, r3, r4, r5, r6, r7, r8, r9, r10, r11, r12, r13⟩ := r
              dsimp only [Ent.cells] at hpc
              have HPC := Lib.hid hpc
              have HPP := Lib.hid hpp
              have HFA := Lib.hid hfa
              clear hpc hpp hfa
              have HTG := Lib.hid (fun i W => tag_any i W)
              have HPG := Lib.hid (fun i W => page_any i W)
              have HAC := Lib.hid (fun i W => acc_any i W)
              go_upto_region 29 with fail
              refine name_world ?_
              intro wz hwz
             
              have hsz : wz.heap.size = wx.heap.size + 2 := by rw [hwz]; simp
              have HBZ := Lib.hid (show Below wx.heap.size wx wz by rw [hwz]; repeat' (first | (with_reducible exact Below.refl _ _) | (with_reducible (refine Below.setCell ?_ ?_ _)) | (with_reducible (refine Below.alloc ?_ ?_ _)) | (with_reducible (refine Below.drew ?_)) | omega | (simp; done) | (simp; omega)))
              have HZy := Lib.hid (show wz.heap[wx.heap.size]? = some (.cells #[.int .i64 0, .int .i64 0, .int .i64 0, .bool false, .int .i64 0, .int .i64 0, .int .i64 0, .int .i64 0, .bool false, .bool false, .bool false, .bool false, .bool false, .int .i64 0] entT (0, 0)) by rw [hwz]; exact (heap_old _ _ (by simp)).trans (heap_new _ _))
              have HZd := Lib.hid (show wz.heap[wx.heap.size + 1]? = some (.cells #[.int .i64 0, .int .i64 0, .int .i64 0, .bool false, .int .i64 0, .int .i64 0, .int .i64 0, .int .i64 0, .bool false, .bool false, .bool false, .bool false, .bool false, .int .i64 0] entT (0, 0)) by rw [hwz]; exact heap_at _ _ (by simp))
              clear hwz y3 yf3 y5 yf5 y7 yf7 y9 yf9 y10 yf10
              have HZ3 := Lib.hid ((HBZ.out.block _ h3b).trans HY3.out)
              have HZ5 := Lib.hid ((HBZ.out.block _ h5b).trans HY5.out)
              have HZ7 := Lib.hid ((HBZ.out.block _ h7b).trans HY7.out)
              have z5 := fun j => cell_of_row _ _ j _ _ _ HZ5.out
              have zf5 := fun j => frozen_of_row _ _ j _ _ HZ5.out
              have z7 := fun j => cell_of_row _ _ j _ _ _ HZ7.out
              have zf7 := fun j => frozen_of_row _ _ j _ _ HZ7.out
              have zy := fun j => cell_of_row _ _ j _ _ _ HZy.out
              have zfy := fun j => frozen_of_row _ _ j _ _ HZy.out
             
              go_cut [16] from 88 to 88 (fun v W => v = .bool (numOk vm 15 && numOk a4 4095) ∧ wz = W)
              case first =>
                cases f1 : numOk vm 15
                · go_wp2_with (first | (go_at_call 53; refine (HTG.out _ _).mono ?_; rintro e w' ⟨rfl, rfl⟩) | (go_at_call 54; refine (HPG.out _ _).mono ?_; rintro e w' ⟨rfl, rfl⟩) | (go_at_call 56; refine (HAC.out _ _).mono ?_; rintro e w' ⟨rfl, rfl⟩))
                  go_meet
                  case rel => exact ⟨by simp [f1], rfl⟩
                · go_wp2_with (first | (go_at_call 53; refine (HTG.out _ _).mono ?_; rintro e w' ⟨rfl, rfl⟩) | (go_at_call 54; refine (HPG.out _ _).mono ?_; rintro e w' ⟨rfl, rfl⟩) | (go_at_call 56; refine (HAC.out _ _).mono ?_; rintro e w' ⟨rfl, rfl⟩))
                  go_meet
                  case rel => exact ⟨by simp [f1], rfl⟩
              case rest =>
                obtain ⟨rfl, rfl⟩ := hcut
                obtain ⟨f0, hf0⟩ : ∃ b, (numOk vm 15 && numOk a4 4095) = b := ⟨_, rfl⟩
                rw [hf0] at HFA HPP ⊢
                clear hf0
                go_upto_block 3 with fail
                go_cut [11, 16] from 98 to 98 (fun u v W => u = .int .i64 x ∧ v = .bool (f0 && accOk acc) ∧ W.heap[wx.heap.size]? = some (.cells #[.int .i64 r0, .int .i64 r1, .int .i64 r2, .bool r3, .int .i64 r4, .int .i64 r5, .int .i64 r6, .int .i64 r7, .bool r8, .bool r9, .bool r10, .bool r11, .bool r12, .int .i64 r13] entT (0, 0)) ∧ W.heap[wx.heap.size + 1]? = some (.cells #[.int .i64 0, .int .i64 0, .int .i64 0, .bool false, .int .i64 0, .int .i64 0, .int .i64 0, .int .i64 0, .bool false, .bool false, .bool false, .bool false, .bool false, .int .i64 0] entT (0, 0)) ∧ Below wx.heap.size wx W)
                case first =>
                  go_upto_region 35 with fail
                 
                  refine wp_region_lit ?_
                  refine wpList_plain rfl fun K hK => ?_
                  unfold Oper.wp execOp
                  go_simp
                  refine hK _ _ ?_
                  clear hK K
                  refine wpList_plain rfl fun K hK => ?_
                  unfold Oper.wp execOp
                  go_simp
                  refine hK _ _ ?_
                  clear hK K
                  refine wpList_plain rfl fun K hK => ?_
                  unfold Oper.wp execOp
                  go_simp
                  refine hK _ _ ?_
                  clear hK K
                  refine wpList_plain rfl fun K hK => ?_
                  unfold Oper.wp execOp
                  go_simp
                  refine hK _ _ ?_
                  clear hK K
                  refine wpList_plain rfl fun K hK => ?_
                  unfold Oper.wp execOp
                  go_simp
                  refine hK _ _ ?_
                  clear hK K
                  refine wpList_plain rfl fun K hK => ?_
                  unfold Oper.wp execOp
                  go_simp
                  refine hK _ _ ?_
                  clear hK K
                  refine wpList_plain rfl fun K hK => ?_
                  unfold Oper.wp execOp
                  go_simp
                  refine hK _ _ ?_
                  clear hK K
                  refine wpList_plain rfl fun K hK => ?_
                  unfold Oper.wp execOp
                  go_simp
                  refine hK _ _ ?_
                  clear hK K
                  refine wpList_plain rfl fun K hK => ?_
                  unfold Oper.wp execOp
                  go_simp
                 
                  refine Calls.mono (HPC.out _ (HIN.out _ (by repeat' (first | (with_reducible exact Below.refl _ _) | (with_reducible (refine Below.setCell ?_ ?_ _)) | (with_reducible (refine Below.alloc ?_ ?_ _)) | (with_reducible (refine Below.drew ?_)) | (with_reducible (refine below_via ?_ HBZ.out ?_)) | omega | (simp; done) | (simp; omega))))) ?_
                  rintro e w6 ⟨rfl, hb6⟩
                  have hs6 := hb6.size
                  try simp at hs6
                  have hc6_0 := fun o => (bcell hb6).1 (wx.heap.size) o (by first | omega | (simp; done) | (simp; omega))
                  have hf6_0 := fun o => (bcell hb6).2.1 (wx.heap.size) o (by first | omega | (simp; done) | (simp; omega))
                  have hz6_0 := (bcell hb6).2.2 (wx.heap.size) (by first | omega | (simp; done) | (simp; omega))
                  have HB6 := Lib.hid hb6
                  clear hb6
                 
                  go_simp
                  refine hK _ _ ?_
                  clear hK K
                  refine wpList_plain rfl fun K hK => ?_
                  unfold Oper.wp execOp
                  go_simp
                  refine hK _ _ ?_
                  clear hK K
                  refine wpList_plain rfl fun K hK => ?_
                  unfold Oper.wp execOp
                  go_simp
                  refine hK _ _ ?_
                  clear hK K
                  refine wpList_plain rfl fun K hK => ?_
                  unfold Oper.wp execOp
                  go_simp
                  refine hK _ _ ?_
                  clear hK K
                  refine wpList_store_mid rfl 36 (.tmp 13) (.tmp 137) rfl wx.heap.size 0 #[.int .i64 r0, .int .i64 r1, .int .i64 r2, .bool r3, .int .i64 r4, .int .i64 r5, .int .i64 r6, .int .i64 r7, .bool r8, .bool r9, .bool r10, .bool r11, .bool r12, .int .i64 r13] rfl rfl (there_row #[.int .i64 0, .int .i64 0, .int .i64 0, .bool false, .int .i64 0, .int .i64 0, .int .i64 0, .int .i64 0, .bool false, .bool false, .bool false, .bool false, .bool false, .int .i64 0] entT ((HB6.out.block _ (by omega)).trans HZy.out)) (by kernel_rfl) (by simp [Value.oneCell']) ?_
                  simp only [put_lit_none]
                 
                  go_upto_region 36 with fail
                  refine name_world ?_
                  intro wy hwy
                 
                  have hsy : wy.heap.size = w6.heap.size := by rw [hwy, size_cells]
                  have HWy := Lib.hid (show wy.heap[wx.heap.size]? = some (.cells #[.int .i64 r0, .int .i64 r1, .int .i64 r2, .bool r3, .int .i64 r4, .int .i64 r5, .int .i64 r6, .int .i64 r7, .bool r8, .bool r9, .bool r10, .bool r11, .bool r12, .int .i64 r13] entT (0, 0)) by rw [hwy]; exact heap_whole [.int .i64 r0, .int .i64 r1, .int .i64 r2, .bool r3, .int .i64 r4, .int .i64 r5, .int .i64 r6, .int .i64 r7, .bool r8, .bool r9, .bool r10, .bool r11, .bool r12, .int .i64 r13] ((HB6.out.block _ (by omega)).trans HZy.out) rfl)
                  have HWd := Lib.hid (show wy.heap[wx.heap.size + 1]? = some (.cells #[.int .i64 0, .int .i64 0, .int .i64 0, .bool false, .int .i64 0, .int .i64 0, .int .i64 0, .int .i64 0, .bool false, .bool false, .bool false, .bool false, .bool false, .int .i64 0] entT (0, 0)) by rw [hwy]; exact (heap_cells (by omega) _ _ _).trans ((HB6.out.block _ (by omega)).trans HZd.out))
                  have HW5 := Lib.hid (show wy.heap[wr.heap.size]? = some (.cells #[.int .i64 do_, .int .i64 n, .int .i64 vm, .int .i64 asd, .int .i64 acc, .int .i64 a0, .int .i64 a1, .int .i64 a2, .bool a3, .int .i64 a4, .int .i64 a5, .int .i64 a6, .int .i64 a7, .bool a8, .bool a9, .bool a10, .bool a11, .bool a12, .int .i64 a13] actT (0, 0)) by rw [hwy]; exact (heap_cells (by omega) _ _ _).trans ((HB6.out.block _ (by omega)).trans HZ5.out))
                  have HW3 := Lib.hid (show wy.heap[w2.heap.size]? = some (.cells #[.slice A es.length c, .slice B ds.length d] tlbT (0, 0)) by rw [hwy]; exact (heap_cells (by omega) _ _ _).trans ((HB6.out.block _ (by omega)).trans HZ3.out))
                  have HBY := Lib.hid (show Below wx.heap.size wx wy by rw [hwy]; exact below_cells (Nat.le_refl _) _ _ _ (by repeat' (first | (with_reducible exact Below.refl _ _) | (with_reducible (refine Below.setCell ?_ ?_ _)) | (with_reducible (refine Below.alloc ?_ ?_ _)) | (with_reducible (refine Below.drew ?_)) | (with_reducible (refine below_via ?_ HB6.out ?_)) | (with_reducible (refine below_via ?_ HBZ.out ?_)) | omega | (simp; done) | (simp; omega))))
                  have HW9 := Lib.hid ((HBY.out.block _ h9b).trans HY9.out)
                  have HW10 := Lib.hid ((HBY.out.block _ h10b).trans HY10.out)
                 
                  clear hwy z5 zf5 z7 zf7 zy zfy hc6_0 hf6_0 hz6_0
                  have z5 := fun j => cell_of_row _ _ j _ _ _ HW5.out
                  have zf5 := fun j => frozen_of_row _ _ j _ _ HW5.out
                  cases f0
                  · go_wp2_with fail
                    go_meet
                    case rel => exact ⟨rfl, rfl, HWy.out, HWd.out, HBY.out⟩
                  · go_wp2_with (first | (go_at_call 53; refine (HTG.out _ _).mono ?_; rintro e w' ⟨rfl, rfl⟩) | (go_at_call 54; refine (HPG.out _ _).mono ?_; rintro e w' ⟨rfl, rfl⟩) | (go_at_call 56; refine (HAC.out _ _).mono ?_; rintro e w' ⟨rfl, rfl⟩))
                    go_meet
                    case rel => exact ⟨rfl, rfl, HWy.out, HWd.out, HBY.out⟩
                case rest =>
                  obtain ⟨rfl, rfl, hwy, hwd, hby⟩ := hcut
                  obtain ⟨wy, rfl⟩ : ∃ wy : World, wy = wc := ⟨_, rfl⟩
                 
                  have HWy := Lib.hid hwy
                  have HWd := Lib.hid hwd
                  have HBY := Lib.hid hby
                  have hsy := hby.size
                  clear hwy hwd hby z5 zf5 z7 zf7 zy zfy
                  have HW5 := Lib.hid ((HBY.out.block _ h5b).trans HY5.out)
                  have HW3 := Lib.hid ((HBY.out.block _ h3b).trans HY3.out)
                  have HW9 := Lib.hid ((HBY.out.block _ h9b).trans HY9.out)
                  have HW10 := Lib.hid ((HBY.out.block _ h10b).trans HY10.out)
                  have z3 := fun j => cell_of_row _ _ j _ _ _ HW3.out
                  have zf3 := fun j => frozen_of_row _ _ j _ _ HW3.out
                  have z5 := fun j => cell_of_row _ _ j _ _ _ HW5.out
                  have zf5 := fun j => frozen_of_row _ _ j _ _ HW5.out
                  obtain ⟨is_, his⟩ : ∃ b, (f0 && accOk acc) = b := ⟨_, rfl⟩
                  rw [his] at HFA HPP ⊢
                  clear his
                  rw [HMY.out] at HFA HPP
                  have h3y := heap_lt HW3.out
                  have hdy := heap_lt HWd.out
                  go_upto_region 40 with fail
                  go_cut [168] from 165 to 165 (fun v W => v = .bool (may && is_) ∧ wy = W)
                  case first =>
                    cases may
                    · go_wp2_with fail
                      go_meet
                      case rel => exact ⟨rfl, rfl⟩
                    · go_wp2_with fail
                      go_meet
                      case rel => exact ⟨rfl, rfl⟩
                  case rest =>
                    obtain ⟨rfl, rfl⟩ := hcut
                    obtain ⟨g, hg⟩ : ∃ b, (may && is_) = b := ⟨_, rfl⟩
                    rw [hg] at HFA HPP ⊢
                    clear hg
                   
                    go_upto_if 168 with fail
                    go_cut [8, 15] from 170 to 170 (fun v _ W => v = .int .i64 x ∧ W.heap[wx.heap.size]? = some (.cells #[.int .i64 r0, .int .i64 r1, .int .i64 r2, .bool r3, .int .i64 r4, .int .i64 r5, .int .i64 r6, .int .i64 r7, .bool r8, .bool r9, .bool r10, .bool r11, .bool r12, .int .i64 r13] entT (0, 0)) ∧ W.heap[wx.heap.size + 1]? = some (.cells #[.int .i64 r0, .int .i64 r1, .int .i64 r2, .bool r3, .int .i64 r4, .int .i64 r5, .int .i64 r6, .int .i64 r7, .bool r8, .bool r9, .bool r10, .bool r11, .bool r12, .int .i64 r13] entT (0, 0)) ∧ Below wx.heap.size wx W)
                    case first =>
                     
                      cases g
                      · rcases HFA.out with ⟨_, hr, rfl⟩ | ⟨hyes, _⟩
                        · simp only [noEnt, Ent.mk.injEq] at hr
                          obtain ⟨rfl, rfl, rfl, rfl, rfl, rfl, rfl, rfl, rfl, rfl, rfl, rfl, rfl, rfl⟩ := hr
                          clear HPC HPP HFA
                          go_wp2_with fail
                          go_meet
                          case rel => exact ⟨rfl, HWy.out, HWd.out, HBY.out⟩
                        · exact Bool.noConfusion hyes
                      · rcases HFA.out with ⟨hno, _⟩ | ⟨_, hf⟩
                        · exact Bool.noConfusion hno
                        have HPQ := Lib.hid (HPP.out rfl)
                        have HF := Lib.hid hf
                        clear hf HPC HPP HFA
                        go_wp2_with fail
                        refine Calls.mono (HPQ.out _ (HTB.out _ (by repeat' (first | (with_reducible exact Below.refl _ _) | (with_reducible (refine Below.setCell ?_ ?_ _)) | (with_reducible (refine Below.alloc ?_ ?_ _)) | (with_reducible (refine Below.drew ?_)) | (with_reducible (refine below_via ?_ HBY.out ?_)) | omega | (simp; done) | (simp; omega))))) ?_
                        rintro e w7 ⟨rfl, hb7⟩
                        have hs7 := hb7.size
                        try simp at hs7
                        have hc7_0 := fun o => (bcell hb7).1 (w2.heap.size) o (by first | omega | (simp; done) | (simp; omega))
                        have hf7_0 := fun o => (bcell hb7).2.1 (w2.heap.size) o (by first | omega | (simp; done) | (simp; omega))
                        have hz7_0 := (bcell hb7).2.2 (w2.heap.size) (by first | omega | (simp; done) | (simp; omega))
                        have HB7 := Lib.hid hb7
                        clear hb7
                       
                        rcases HF.out with ⟨rfl, hr, rfl⟩ | ⟨m, hm, rfl, hr, rfl⟩
                        · simp only [noEnt, Ent.mk.injEq] at hr
                          obtain ⟨rfl, rfl, rfl, rfl, rfl, rfl, rfl, rfl, rfl, rfl, rfl, rfl, rfl, rfl⟩ := hr
                          clear HF
                          go_wp2_with fail
                          go_meet
                          case rel => exact ⟨rfl, (HB7.out.block _ (by omega)).trans HWy.out, (HB7.out.block _ (by omega)).trans HWd.out, (by repeat' (first | (with_reducible exact Below.refl _ _) | (with_reducible (refine Below.setCell ?_ ?_ _)) | (with_reducible (refine Below.alloc ?_ ?_ _)) | (with_reducible (refine Below.drew ?_)) | (with_reducible (refine below_via ?_ HB7.out ?_)) | (with_reducible (refine below_via ?_ HBY.out ?_)) | omega | (simp; done) | (simp; omega)))⟩
                        · clear HF
                          obtain ⟨be, oe, rfl, hbe, hce⟩ := at_cells (HTB.out wx (Below.refl _ _)).eat (Below.refl _ _) hm
                          rw [hr] at hce
                          dsimp only [Ent.cells] at hce
                          have HB8 := Lib.hid (show Below wx.heap.size wx w7 from (by repeat' (first | (with_reducible exact Below.refl _ _) | (with_reducible (refine Below.setCell ?_ ?_ _)) | (with_reducible (refine Below.alloc ?_ ?_ _)) | (with_reducible (refine Below.drew ?_)) | (with_reducible (refine below_via ?_ HB7.out ?_)) | (with_reducible (refine below_via ?_ HBY.out ?_)) | omega | (simp; done) | (simp; omega))))
                          have HRE := Lib.hid (range_below (show wx.rangeAt be (oe + m * 14) [.int .i64 r0, .int .i64 r1, .int .i64 r2, .bool r3, .int .i64 r4, .int .i64 r5, .int .i64 r6, .int .i64 r7, .bool r8, .bool r9, .bool r10, .bool r11, .bool r12, .int .i64 r13] from hce) HB8.out hbe)
                          clear hce hr
                          have hmi : (m : Int) < es.length := by omega
                          go_upto_region 50 with fail
                          have hg1 : be < wx.heap.size + 1 := by omega
                          have hg2 : w2.heap.size < wx.heap.size + 1 := by omega
                         
                          refine wp_region_done (fun d w9 => PutC (w7) (wx.heap.size + 1) 6 (entT) (#[.int .i64 0, .int .i64 0, .int .i64 0, .bool false, .int .i64 0, .int .i64 0, .int .i64 0, .int .i64 0, .bool false, .bool false, .bool false, .bool false, .bool false, .int .i64 0]) (#[.int .i64 r0, .int .i64 r1, .int .i64 r2, .bool r3, .int .i64 r4, .int .i64 r5, .int .i64 r6, .int .i64 r7, .bool r8, .bool r9, .bool r10, .bool r11, .bool r12, .int .i64 r13]) d w9) (by kernel_rfl) (by kernel_rfl) (putC_start (((HB7.out.block _ (by omega)).trans HWd.out))) ?_
                          repeat (first
                            | (refine wpLex_putc (by rfl) (by rfl) ?_
                               apply Exists.intro
                               refine ⟨?_, ?_⟩
                               · intro w' hb
                                 exact upon_load_mid 36 (.tmp 210) rfl (be) (oe + m * 14) rfl [.int .i64 r0, .int .i64 r1, .int .i64 r2, .bool r3, .int .i64 r4, .int .i64 r5, .int .i64 r6, .int .i64 r7, .bool r8, .bool r9, .bool r10, .bool r11, .bool r12, .int .i64 r13] _ (range_below (HRE.out) hb (by omega)) Try.underlying36 rfl (by kernel_rfl) ⟨rfl, Below.refl _ _⟩
                               conv => arg 9; simp only [put_lit, put_lit_none, List.set])
                            | (refine wpLex_putst (by rfl) (by rfl) undef ?_ ?_
                               · intro w' hb hz
                                 exact upon_store_mid 36 (.tmp 14) (.tmp 211) rfl (wx.heap.size + 1) 0 #[.int .i64 r0, .int .i64 r1, .int .i64 r2, .bool r3, .int .i64 r4, .int .i64 r5, .int .i64 r6, .int .i64 r7, .bool r8, .bool r9, .bool r10, .bool r11, .bool r12, .int .i64 r13] rfl rfl (there_row #[.int .i64 0, .int .i64 0, .int .i64 0, .bool false, .int .i64 0, .int .i64 0, .int .i64 0, .int .i64 0, .bool false, .bool false, .bool false, .bool false, .bool false, .int .i64 0] entT hz) (by kernel_rfl) (by simp [Value.oneCell']) ⟨rfl, below_cells (Nat.le_refl _) _ _ _ (Below.refl _ _), heap_whole [.int .i64 r0, .int .i64 r1, .int .i64 r2, .bool r3, .int .i64 r4, .int .i64 r5, .int .i64 r6, .int .i64 r7, .bool r8, .bool r9, .bool r10, .bool r11, .bool r12, .int .i64 r13] hz rfl⟩
                               conv => arg 9; simp only [put_lit, put_lit_none, List.set])
                            | (refine wpLex_pass (by rfl) (passes_done fun d w _ hc => putC_step hc (Below.refl _ _) (by rfl)) ?_; (conv => arg 9; simp only [put_lit, put_lit_none, List.set]))
                            | (refine wpLex_putc (by rfl) (by rfl) ?_
                               apply Exists.intro
                               refine ⟨?_, ?_⟩
                               · intro w' hb
                                 have hsz := hb.size
                                 try simp at hsz
                                 have hcw := fun b o (h : b < wx.heap.size + 1) => hb.cell (p := ⟨b, o, none⟩) h
                                 have hfw := fun b o (h : b < wx.heap.size + 1) => hb.frozen (p := ⟨b, o, none⟩) h
                                 go_simp
                                 first
                                   | exact ⟨rfl, Below.refl _ _⟩
                                   | exact Below.refl _ _
                               conv => arg 9; simp only [put_lit, put_lit_none, List.set])
                            | (refine wpLex_putst (by rfl) (by rfl) undef ?_ ?_
                               · intro w' hb hz
                                 have hcw := fun b o (h : b < wx.heap.size + 1) => hb.cell (p := ⟨b, o, none⟩) h
                                 have hzc := fun j => cell_of_row _ _ j _ _ _ hz
                                 have hzf := fun j => frozen_of_row _ _ j _ _ hz
                                 go_simp
                                 first
                                   | exact ⟨(by repeat' (first | (with_reducible exact Below.refl _ _) | (with_reducible (refine Below.setCell ?_ ?_ _)) | omega | (simp; done))), heap_set_same hz _ _⟩
                               conv => arg 9; simp only [put_lit, put_lit_none, List.set]))
                          refine wpLex_nil ?_
                          intro wp dp hdp hCp
                          obtain ⟨hbp, hxp⟩ := putC_done hCp (hdp 6 (by decide))
                          clear hCp hdp
                          have hsp := heap_lt hxp
                          have hcp := fun b o (h : b < wx.heap.size + 1) => hbp.cell (p := ⟨b, o, none⟩) h
                          have hfp := fun b o (h : b < wx.heap.size + 1) => hbp.frozen (p := ⟨b, o, none⟩) h
                          have hxcp := fun j => cell_of_row _ _ j _ _ _ hxp
                          have hxfp := fun j => frozen_of_row _ _ j _ _ hxp
                          have HBp := Lib.hid hbp
                          have HXp := Lib.hid hxp
                          clear hbp hxp
                          have hn1 : wx.heap.size < wx.heap.size + 1 := by omega
                         
                          clear hcp hfp
                          repeat go_step
                         
                          go_meet
                         
                          case rel => exact ⟨rfl, (HBp.out.block _ hn1).trans ((HB7.out.block _ (by omega)).trans HWy.out), HXp.out, (by repeat' (first | (with_reducible exact Below.refl _ _) | (with_reducible (refine Below.setCell ?_ ?_ _)) | (with_reducible (refine Below.alloc ?_ ?_ _)) | (with_reducible (refine Below.drew ?_)) | (with_reducible (refine below_via ?_ HBp.out ?_)) | (with_reducible (refine below_via ?_ HB7.out ?_)) | (with_reducible (refine below_via ?_ HBY.out ?_)) | omega | (simp; done) | (simp; omega)))⟩
                    case rest =>
                      obtain ⟨rfl, hty, htd, htb⟩ := hcut
                      obtain ⟨wt, rfl⟩ : ∃ wt : World, wt = wc := ⟨_, rfl⟩
                     
                      have HTY := Lib.hid (range_row [.int .i64 r0, .int .i64 r1, .int .i64 r2, .bool r3, .int .i64 r4, .int .i64 r5, .int .i64 r6, .int .i64 r7, .bool r8, .bool r9, .bool r10, .bool r11, .bool r12, .int .i64 r13] hty)
                      have HTD := Lib.hid (range_row [.int .i64 r0, .int .i64 r1, .int .i64 r2, .bool r3, .int .i64 r4, .int .i64 r5, .int .i64 r6, .int .i64 r7, .bool r8, .bool r9, .bool r10, .bool r11, .bool r12, .int .i64 r13] htd)
                      have HTB2 := Lib.hid htb
                      have he := fun W => run_neq_ent r0 r1 r2 r3 r4 r5 r6 r7 r8 r9 r10 r11 r12 r13 r0 r1 r2 r3 r4 r5 r6 r7 r8 r9 r10 r11 r12 r13 W
                      rw [entEq_refl] at he
                      simp only [Bool.not_true] at he
                      clear HPC HPP HFA HWy HWd HW5 HW3 HW9 HW10 hty htd htb z3 zf3 z5 zf5 HY3 HY5 HY7 HIN HTB HMY HTG HPG HAC
                      go_upto_region 51 with fail
                      refine wp_region_lit ?_
                      refine wpList_load_mid rfl 36 (.tmp 13) rfl wx.heap.size 0 rfl [.int .i64 r0, .int .i64 r1, .int .i64 r2, .bool r3, .int .i64 r4, .int .i64 r5, .int .i64 r6, .int .i64 r7, .bool r8, .bool r9, .bool r10, .bool r11, .bool r12, .int .i64 r13] _ HTY.out Try.underlying36 rfl (by kernel_rfl) ?_
                      simp only [put_lit, List.set]
                      refine wpList_load_mid rfl 36 (.tmp 14) rfl (wx.heap.size + 1) 0 rfl [.int .i64 r0, .int .i64 r1, .int .i64 r2, .bool r3, .int .i64 r4, .int .i64 r5, .int .i64 r6, .int .i64 r7, .bool r8, .bool r9, .bool r10, .bool r11, .bool r12, .int .i64 r13] _ HTD.out Try.underlying36 rfl (by kernel_rfl) ?_
                      simp only [put_lit, List.set]
                      go_wp2_with fail
                      go_meet
                      case rel => exact sw_none ((HTB2.out.block _ h9b).trans HY9.out) ((HTB2.out.block _ h10b).trans HY10.out) (HTB2.out.mono (by omega))
            · subst d6
             
              as_aux_lemma =>
              have hwc5 : w5.heap.size + 3 ≤ wx.heap.size := by omega
              clear hsb
              obtain ⟨r, x, ix, hpc, hpp, hfa⟩ := walk_all es ds Ai A ci c Bi B di d vm asd a4
              obtain ⟨r0, r1, r2, r3, r4, r5, r6, r7, r8, r9, r10, r11, r12, r13⟩ := r
              dsimp only [Ent.cells] at hpc
              have HPC := Lib.hid hpc
              have HPP := Lib.hid hpp
              have HFA := Lib.hid hfa
              clear hpc hpp hfa
              have HTG := Lib.hid (fun i W => tag_any i W)
              have HPG := Lib.hid (fun i W => page_any i W)
              have HAC := Lib.hid (fun i W => acc_any i W)
              go_upto_region 29 with fail
              refine name_world ?_
              intro wz hwz
             
              have hsz : wz.heap.size = wx.heap.size + 2 := by rw [hwz]; simp
              have HBZ := Lib.hid (show Below wx.heap.size wx wz by rw [hwz]; repeat' (first | (with_reducible exact Below.refl _ _) | (with_reducible (refine Below.setCell ?_ ?_ _)) | (with_reducible (refine Below.alloc ?_ ?_ _)) | (with_reducible (refine Below.drew ?_)) | omega | (simp; done) | (simp; omega)))
              have HZy := Lib.hid (show wz.heap[wx.heap.size]? = some (.cells #[.int .i64 0, .int .i64 0, .int .i64 0, .bool false, .int .i64 0, .int .i64 0, .int .i64 0, .int .i64 0, .bool false, .bool false, .bool false, .bool false, .bool false, .int .i64 0] entT (0, 0)) by rw [hwz]; exact (heap_old _ _ (by simp)).trans (heap_new _ _))
              have HZd := Lib.hid (show wz.heap[wx.heap.size + 1]? = some (.cells #[.int .i64 0, .int .i64 0, .int .i64 0, .bool false, .int .i64 0, .int .i64 0, .int .i64 0, .int .i64 0, .bool false, .bool false, .bool false, .bool false, .bool false, .int .i64 0] entT (0, 0)) by rw [hwz]; exact heap_at _ _ (by simp))
              clear hwz y3 yf3 y5 yf5 y7 yf7 y9 yf9 y10 yf10
              have HZ3 := Lib.hid ((HBZ.out.block _ h3b).trans HY3.out)
              have HZ5 := Lib.hid ((HBZ.out.block _ h5b).trans HY5.out)
              have HZ7 := Lib.hid ((HBZ.out.block _ h7b).trans HY7.out)
              have z5 := fun j => cell_of_row _ _ j _ _ _ HZ5.out
              have zf5 := fun j => frozen_of_row _ _ j _ _ HZ5.out
              have z7 := fun j => cell_of_row _ _ j _ _ _ HZ7.out
              have zf7 := fun j => frozen_of_row _ _ j _ _ HZ7.out
              have zy := fun j => cell_of_row _ _ j _ _ _ HZy.out
              have zfy := fun j => frozen_of_row _ _ j _ _ HZy.out
             
              go_cut [16] from 88 to 88 (fun v W => v = .bool (numOk vm 15 && numOk a4 4095) ∧ wz = W)
              case first =>
                cases f1 : numOk vm 15
                · go_wp2_with (first | (go_at_call 53; refine (HTG.out _ _).mono ?_; rintro e w' ⟨rfl, rfl⟩) | (go_at_call 54; refine (HPG.out _ _).mono ?_; rintro e w' ⟨rfl, rfl⟩) | (go_at_call 56; refine (HAC.out _ _).mono ?_; rintro e w' ⟨rfl, rfl⟩))
                  go_meet
                  case rel => exact ⟨by simp [f1], rfl⟩
                · go_wp2_with (first | (go_at_call 53; refine (HTG.out _ _).mono ?_; rintro e w' ⟨rfl, rfl⟩) | (go_at_call 54; refine (HPG.out _ _).mono ?_; rintro e w' ⟨rfl, rfl⟩) | (go_at_call 56; refine (HAC.out _ _).mono ?_; rintro e w' ⟨rfl, rfl⟩))
                  go_meet
                  case rel => exact ⟨by simp [f1], rfl⟩
              case rest =>
                obtain ⟨rfl, rfl⟩ := hcut
                obtain ⟨f0, hf0⟩ : ∃ b, (numOk vm 15 && numOk a4 4095) = b := ⟨_, rfl⟩
                rw [hf0] at HFA HPP ⊢
                clear hf0
                go_upto_block 3 with fail
                go_cut [11, 16] from 98 to 98 (fun u v W => u = .int .i64 x ∧ v = .bool (f0 && numOk asd 15) ∧ W.heap[wx.heap.size]? = some (.cells #[.int .i64 r0, .int .i64 r1, .int .i64 r2, .bool r3, .int .i64 r4, .int .i64 r5, .int .i64 r6, .int .i64 r7, .bool r8, .bool r9, .bool r10, .bool r11, .bool r12, .int .i64 r13] entT (0, 0)) ∧ W.heap[wx.heap.size + 1]? = some (.cells #[.int .i64 0, .int .i64 0, .int .i64 0, .bool false, .int .i64 0, .int .i64 0, .int .i64 0, .int .i64 0, .bool false, .bool false, .bool false, .bool false, .bool false, .int .i64 0] entT (0, 0)) ∧ Below wx.heap.size wx W)
                case first =>
                  go_upto_region 38 with fail
                 
                  refine wp_region_lit ?_
                  refine wpList_plain rfl fun K hK => ?_
                  unfold Oper.wp execOp
                  go_simp
                  refine hK _ _ ?_
                  clear hK K
                  refine wpList_plain rfl fun K hK => ?_
                  unfold Oper.wp execOp
                  go_simp
                  refine hK _ _ ?_
                  clear hK K
                  refine wpList_plain rfl fun K hK => ?_
                  unfold Oper.wp execOp
                  go_simp
                  refine hK _ _ ?_
                  clear hK K
                  refine wpList_plain rfl fun K hK => ?_
                  unfold Oper.wp execOp
                  go_simp
                  refine hK _ _ ?_
                  clear hK K
                  refine wpList_plain rfl fun K hK => ?_
                  unfold Oper.wp execOp
                  go_simp
                  refine hK _ _ ?_
                  clear hK K
                  refine wpList_plain rfl fun K hK => ?_
                  unfold Oper.wp execOp
                  go_simp
                  refine hK _ _ ?_
                  clear hK K
                  refine wpList_plain rfl fun K hK => ?_
                  unfold Oper.wp execOp
                  go_simp
                  refine hK _ _ ?_
                  clear hK K
                  refine wpList_plain rfl fun K hK => ?_
                  unfold Oper.wp execOp
                  go_simp
                  refine hK _ _ ?_
                  clear hK K
                  refine wpList_plain rfl fun K hK => ?_
                  unfold Oper.wp execOp
                  go_simp
                 
                  refine Calls.mono (HPC.out _ (HIN.out _ (by repeat' (first | (with_reducible exact Below.refl _ _) | (with_reducible (refine Below.setCell ?_ ?_ _)) | (with_reducible (refine Below.alloc ?_ ?_ _)) | (with_reducible (refine Below.drew ?_)) | (with_reducible (refine below_via ?_ HBZ.out ?_)) | omega | (simp; done) | (simp; omega))))) ?_
                  rintro e w6 ⟨rfl, hb6⟩
                  have hs6 := hb6.size
                  try simp at hs6
                  have hc6_0 := fun o => (bcell hb6).1 (wx.heap.size) o (by first | omega | (simp; done) | (simp; omega))
                  have hf6_0 := fun o => (bcell hb6).2.1 (wx.heap.size) o (by first | omega | (simp; done) | (simp; omega))
                  have hz6_0 := (bcell hb6).2.2 (wx.heap.size) (by first | omega | (simp; done) | (simp; omega))
                  have HB6 := Lib.hid hb6
                  clear hb6
                 
                  go_simp
                  refine hK _ _ ?_
                  clear hK K
                  refine wpList_plain rfl fun K hK => ?_
                  unfold Oper.wp execOp
                  go_simp
                  refine hK _ _ ?_
                  clear hK K
                  refine wpList_plain rfl fun K hK => ?_
                  unfold Oper.wp execOp
                  go_simp
                  refine hK _ _ ?_
                  clear hK K
                  refine wpList_plain rfl fun K hK => ?_
                  unfold Oper.wp execOp
                  go_simp
                  refine hK _ _ ?_
                  clear hK K
                  refine wpList_store_mid rfl 36 (.tmp 13) (.tmp 157) rfl wx.heap.size 0 #[.int .i64 r0, .int .i64 r1, .int .i64 r2, .bool r3, .int .i64 r4, .int .i64 r5, .int .i64 r6, .int .i64 r7, .bool r8, .bool r9, .bool r10, .bool r11, .bool r12, .int .i64 r13] rfl rfl (there_row #[.int .i64 0, .int .i64 0, .int .i64 0, .bool false, .int .i64 0, .int .i64 0, .int .i64 0, .int .i64 0, .bool false, .bool false, .bool false, .bool false, .bool false, .int .i64 0] entT ((HB6.out.block _ (by omega)).trans HZy.out)) (by kernel_rfl) (by simp [Value.oneCell']) ?_
                  simp only [put_lit_none]
                 
                  go_upto_region 39 with fail
                  refine name_world ?_
                  intro wy hwy
                 
                  have hsy : wy.heap.size = w6.heap.size := by rw [hwy, size_cells]
                  have HWy := Lib.hid (show wy.heap[wx.heap.size]? = some (.cells #[.int .i64 r0, .int .i64 r1, .int .i64 r2, .bool r3, .int .i64 r4, .int .i64 r5, .int .i64 r6, .int .i64 r7, .bool r8, .bool r9, .bool r10, .bool r11, .bool r12, .int .i64 r13] entT (0, 0)) by rw [hwy]; exact heap_whole [.int .i64 r0, .int .i64 r1, .int .i64 r2, .bool r3, .int .i64 r4, .int .i64 r5, .int .i64 r6, .int .i64 r7, .bool r8, .bool r9, .bool r10, .bool r11, .bool r12, .int .i64 r13] ((HB6.out.block _ (by omega)).trans HZy.out) rfl)
                  have HWd := Lib.hid (show wy.heap[wx.heap.size + 1]? = some (.cells #[.int .i64 0, .int .i64 0, .int .i64 0, .bool false, .int .i64 0, .int .i64 0, .int .i64 0, .int .i64 0, .bool false, .bool false, .bool false, .bool false, .bool false, .int .i64 0] entT (0, 0)) by rw [hwy]; exact (heap_cells (by omega) _ _ _).trans ((HB6.out.block _ (by omega)).trans HZd.out))
                  have HW5 := Lib.hid (show wy.heap[wr.heap.size]? = some (.cells #[.int .i64 do_, .int .i64 n, .int .i64 vm, .int .i64 asd, .int .i64 acc, .int .i64 a0, .int .i64 a1, .int .i64 a2, .bool a3, .int .i64 a4, .int .i64 a5, .int .i64 a6, .int .i64 a7, .bool a8, .bool a9, .bool a10, .bool a11, .bool a12, .int .i64 a13] actT (0, 0)) by rw [hwy]; exact (heap_cells (by omega) _ _ _).trans ((HB6.out.block _ (by omega)).trans HZ5.out))
                  have HW3 := Lib.hid (show wy.heap[w2.heap.size]? = some (.cells #[.slice A es.length c, .slice B ds.length d] tlbT (0, 0)) by rw [hwy]; exact (heap_cells (by omega) _ _ _).trans ((HB6.out.block _ (by omega)).trans HZ3.out))
                  have HBY := Lib.hid (show Below wx.heap.size wx wy by rw [hwy]; exact below_cells (Nat.le_refl _) _ _ _ (by repeat' (first | (with_reducible exact Below.refl _ _) | (with_reducible (refine Below.setCell ?_ ?_ _)) | (with_reducible (refine Below.alloc ?_ ?_ _)) | (with_reducible (refine Below.drew ?_)) | (with_reducible (refine below_via ?_ HB6.out ?_)) | (with_reducible (refine below_via ?_ HBZ.out ?_)) | omega | (simp; done) | (simp; omega))))
                  have HW9 := Lib.hid ((HBY.out.block _ h9b).trans HY9.out)
                  have HW10 := Lib.hid ((HBY.out.block _ h10b).trans HY10.out)
                 
                  clear hwy z5 zf5 z7 zf7 zy zfy hc6_0 hf6_0 hz6_0
                  have z5 := fun j => cell_of_row _ _ j _ _ _ HW5.out
                  have zf5 := fun j => frozen_of_row _ _ j _ _ HW5.out
                  cases f0
                  · go_wp2_with fail
                    go_meet
                    case rel => exact ⟨rfl, rfl, HWy.out, HWd.out, HBY.out⟩
                  · go_wp2_with (first | (go_at_call 53; refine (HTG.out _ _).mono ?_; rintro e w' ⟨rfl, rfl⟩) | (go_at_call 54; refine (HPG.out _ _).mono ?_; rintro e w' ⟨rfl, rfl⟩) | (go_at_call 56; refine (HAC.out _ _).mono ?_; rintro e w' ⟨rfl, rfl⟩))
                    go_meet
                    case rel => exact ⟨rfl, rfl, HWy.out, HWd.out, HBY.out⟩
                case rest =>
                  obtain ⟨rfl, rfl, hwy, hwd, hby⟩ := hcut
                  obtain ⟨wy, rfl⟩ : ∃ wy : World, wy = wc := ⟨_, rfl⟩
                 
                  have HWy := Lib.hid hwy
                  have HWd := Lib.hid hwd
                  have HBY := Lib.hid hby
                  have hsy := hby.size
                  clear hwy hwd hby z5 zf5 z7 zf7 zy zfy
                  have HW5 := Lib.hid ((HBY.out.block _ h5b).trans HY5.out)
                  have HW3 := Lib.hid ((HBY.out.block _ h3b).trans HY3.out)
                  have HW9 := Lib.hid ((HBY.out.block _ h9b).trans HY9.out)
                  have HW10 := Lib.hid ((HBY.out.block _ h10b).trans HY10.out)
                  have z3 := fun j => cell_of_row _ _ j _ _ _ HW3.out
                  have zf3 := fun j => frozen_of_row _ _ j _ _ HW3.out
                  have z5 := fun j => cell_of_row _ _ j _ _ _ HW5.out
                  have zf5 := fun j => frozen_of_row _ _ j _ _ HW5.out
                  obtain ⟨is_, his⟩ : ∃ b, (f0 && numOk asd 15) = b := ⟨_, rfl⟩
                  rw [his] at HFA HPP ⊢
                  clear his
                  rw [HMY.out] at HFA HPP
                  have h3y := heap_lt HW3.out
                  have hdy := heap_lt HWd.out
                  go_upto_region 40 with fail
                  go_cut [168] from 165 to 165 (fun v W => v = .bool (may && is_) ∧ wy = W)
                  case first =>
                    cases may
                    · go_wp2_with fail
                      go_meet
                      case rel => exact ⟨rfl, rfl⟩
                    · go_wp2_with fail
                      go_meet
                      case rel => exact ⟨rfl, rfl⟩
                  case rest =>
                    obtain ⟨rfl, rfl⟩ := hcut
                    obtain ⟨g, hg⟩ : ∃ b, (may && is_) = b := ⟨_, rfl⟩
                    rw [hg] at HFA HPP ⊢
                    clear hg
                   
                    go_upto_if 168 with fail
                    go_cut [8, 15] from 170 to 170 (fun v _ W => v = .int .i64 x ∧ W.heap[wx.heap.size]? = some (.cells #[.int .i64 r0, .int .i64 r1, .int .i64 r2, .bool r3, .int .i64 r4, .int .i64 r5, .int .i64 r6, .int .i64 r7, .bool r8, .bool r9, .bool r10, .bool r11, .bool r12, .int .i64 r13] entT (0, 0)) ∧ W.heap[wx.heap.size + 1]? = some (.cells #[.int .i64 r0, .int .i64 r1, .int .i64 r2, .bool r3, .int .i64 r4, .int .i64 r5, .int .i64 r6, .int .i64 r7, .bool r8, .bool r9, .bool r10, .bool r11, .bool r12, .int .i64 r13] entT (0, 0)) ∧ Below wx.heap.size wx W)
                    case first =>
                     
                      cases g
                      · rcases HFA.out with ⟨_, hr, rfl⟩ | ⟨hyes, _⟩
                        · simp only [noEnt, Ent.mk.injEq] at hr
                          obtain ⟨rfl, rfl, rfl, rfl, rfl, rfl, rfl, rfl, rfl, rfl, rfl, rfl, rfl, rfl⟩ := hr
                          clear HPC HPP HFA
                          go_wp2_with fail
                          go_meet
                          case rel => exact ⟨rfl, HWy.out, HWd.out, HBY.out⟩
                        · exact Bool.noConfusion hyes
                      · rcases HFA.out with ⟨hno, _⟩ | ⟨_, hf⟩
                        · exact Bool.noConfusion hno
                        have HPQ := Lib.hid (HPP.out rfl)
                        have HF := Lib.hid hf
                        clear hf HPC HPP HFA
                        go_wp2_with fail
                        refine Calls.mono (HPQ.out _ (HTB.out _ (by repeat' (first | (with_reducible exact Below.refl _ _) | (with_reducible (refine Below.setCell ?_ ?_ _)) | (with_reducible (refine Below.alloc ?_ ?_ _)) | (with_reducible (refine Below.drew ?_)) | (with_reducible (refine below_via ?_ HBY.out ?_)) | omega | (simp; done) | (simp; omega))))) ?_
                        rintro e w7 ⟨rfl, hb7⟩
                        have hs7 := hb7.size
                        try simp at hs7
                        have hc7_0 := fun o => (bcell hb7).1 (w2.heap.size) o (by first | omega | (simp; done) | (simp; omega))
                        have hf7_0 := fun o => (bcell hb7).2.1 (w2.heap.size) o (by first | omega | (simp; done) | (simp; omega))
                        have hz7_0 := (bcell hb7).2.2 (w2.heap.size) (by first | omega | (simp; done) | (simp; omega))
                        have HB7 := Lib.hid hb7
                        clear hb7
                       
                        rcases HF.out with ⟨rfl, hr, rfl⟩ | ⟨m, hm, rfl, hr, rfl⟩
                        · simp only [noEnt, Ent.mk.injEq] at hr
                          obtain ⟨rfl, rfl, rfl, rfl, rfl, rfl, rfl, rfl, rfl, rfl, rfl, rfl, rfl, rfl⟩ := hr
                          clear HF
                          go_wp2_with fail
                          go_meet
                          case rel => exact ⟨rfl, (HB7.out.block _ (by omega)).trans HWy.out, (HB7.out.block _ (by omega)).trans HWd.out, (by repeat' (first | (with_reducible exact Below.refl _ _) | (with_reducible (refine Below.setCell ?_ ?_ _)) | (with_reducible (refine Below.alloc ?_ ?_ _)) | (with_reducible (refine Below.drew ?_)) | (with_reducible (refine below_via ?_ HB7.out ?_)) | (with_reducible (refine below_via ?_ HBY.out ?_)) | omega | (simp; done) | (simp; omega)))⟩
                        · clear HF
                          obtain ⟨be, oe, rfl, hbe, hce⟩ := at_cells (HTB.out wx (Below.refl _ _)).eat (Below.refl _ _) hm
                          rw [hr] at hce
                          dsimp only [Ent.cells] at hce
                          have HB8 := Lib.hid (show Below wx.heap.size wx w7 from (by repeat' (first | (with_reducible exact Below.refl _ _) | (with_reducible (refine Below.setCell ?_ ?_ _)) | (with_reducible (refine Below.alloc ?_ ?_ _)) | (with_reducible (refine Below.drew ?_)) | (with_reducible (refine below_via ?_ HB7.out ?_)) | (with_reducible (refine below_via ?_ HBY.out ?_)) | omega | (simp; done) | (simp; omega))))
                          have HRE := Lib.hid (range_below (show wx.rangeAt be (oe + m * 14) [.int .i64 r0, .int .i64 r1, .int .i64 r2, .bool r3, .int .i64 r4, .int .i64 r5, .int .i64 r6, .int .i64 r7, .bool r8, .bool r9, .bool r10, .bool r11, .bool r12, .int .i64 r13] from hce) HB8.out hbe)
                          clear hce hr
                          have hmi : (m : Int) < es.length := by omega
                          go_upto_region 50 with fail
                          have hg1 : be < wx.heap.size + 1 := by omega
                          have hg2 : w2.heap.size < wx.heap.size + 1 := by omega
                         
                          refine wp_region_done (fun d w9 => PutC (w7) (wx.heap.size + 1) 6 (entT) (#[.int .i64 0, .int .i64 0, .int .i64 0, .bool false, .int .i64 0, .int .i64 0, .int .i64 0, .int .i64 0, .bool false, .bool false, .bool false, .bool false, .bool false, .int .i64 0]) (#[.int .i64 r0, .int .i64 r1, .int .i64 r2, .bool r3, .int .i64 r4, .int .i64 r5, .int .i64 r6, .int .i64 r7, .bool r8, .bool r9, .bool r10, .bool r11, .bool r12, .int .i64 r13]) d w9) (by kernel_rfl) (by kernel_rfl) (putC_start (((HB7.out.block _ (by omega)).trans HWd.out))) ?_
                          repeat (first
                            | (refine wpLex_putc (by rfl) (by rfl) ?_
                               apply Exists.intro
                               refine ⟨?_, ?_⟩
                               · intro w' hb
                                 exact upon_load_mid 36 (.tmp 210) rfl (be) (oe + m * 14) rfl [.int .i64 r0, .int .i64 r1, .int .i64 r2, .bool r3, .int .i64 r4, .int .i64 r5, .int .i64 r6, .int .i64 r7, .bool r8, .bool r9, .bool r10, .bool r11, .bool r12, .int .i64 r13] _ (range_below (HRE.out) hb (by omega)) Try.underlying36 rfl (by kernel_rfl) ⟨rfl, Below.refl _ _⟩
                               conv => arg 9; simp only [put_lit, put_lit_none, List.set])
                            | (refine wpLex_putst (by rfl) (by rfl) undef ?_ ?_
                               · intro w' hb hz
                                 exact upon_store_mid 36 (.tmp 14) (.tmp 211) rfl (wx.heap.size + 1) 0 #[.int .i64 r0, .int .i64 r1, .int .i64 r2, .bool r3, .int .i64 r4, .int .i64 r5, .int .i64 r6, .int .i64 r7, .bool r8, .bool r9, .bool r10, .bool r11, .bool r12, .int .i64 r13] rfl rfl (there_row #[.int .i64 0, .int .i64 0, .int .i64 0, .bool false, .int .i64 0, .int .i64 0, .int .i64 0, .int .i64 0, .bool false, .bool false, .bool false, .bool false, .bool false, .int .i64 0] entT hz) (by kernel_rfl) (by simp [Value.oneCell']) ⟨rfl, below_cells (Nat.le_refl _) _ _ _ (Below.refl _ _), heap_whole [.int .i64 r0, .int .i64 r1, .int .i64 r2, .bool r3, .int .i64 r4, .int .i64 r5, .int .i64 r6, .int .i64 r7, .bool r8, .bool r9, .bool r10, .bool r11, .bool r12, .int .i64 r13] hz rfl⟩
                               conv => arg 9; simp only [put_lit, put_lit_none, List.set])
                            | (refine wpLex_pass (by rfl) (passes_done fun d w _ hc => putC_step hc (Below.refl _ _) (by rfl)) ?_; (conv => arg 9; simp only [put_lit, put_lit_none, List.set]))
                            | (refine wpLex_putc (by rfl) (by rfl) ?_
                               apply Exists.intro
                               refine ⟨?_, ?_⟩
                               · intro w' hb
                                 have hsz := hb.size
                                 try simp at hsz
                                 have hcw := fun b o (h : b < wx.heap.size + 1) => hb.cell (p := ⟨b, o, none⟩) h
                                 have hfw := fun b o (h : b < wx.heap.size + 1) => hb.frozen (p := ⟨b, o, none⟩) h
                                 go_simp
                                 first
                                   | exact ⟨rfl, Below.refl _ _⟩
                                   | exact Below.refl _ _
                               conv => arg 9; simp only [put_lit, put_lit_none, List.set])
                            | (refine wpLex_putst (by rfl) (by rfl) undef ?_ ?_
                               · intro w' hb hz
                                 have hcw := fun b o (h : b < wx.heap.size + 1) => hb.cell (p := ⟨b, o, none⟩) h
                                 have hzc := fun j => cell_of_row _ _ j _ _ _ hz
                                 have hzf := fun j => frozen_of_row _ _ j _ _ hz
                                 go_simp
                                 first
                                   | exact ⟨(by repeat' (first | (with_reducible exact Below.refl _ _) | (with_reducible (refine Below.setCell ?_ ?_ _)) | omega | (simp; done))), heap_set_same hz _ _⟩
                               conv => arg 9; simp only [put_lit, put_lit_none, List.set]))
                          refine wpLex_nil ?_
                          intro wp dp hdp hCp
                          obtain ⟨hbp, hxp⟩ := putC_done hCp (hdp 6 (by decide))
                          clear hCp hdp
                          have hsp := heap_lt hxp
                          have hcp := fun b o (h : b < wx.heap.size + 1) => hbp.cell (p := ⟨b, o, none⟩) h
                          have hfp := fun b o (h : b < wx.heap.size + 1) => hbp.frozen (p := ⟨b, o, none⟩) h
                          have hxcp := fun j => cell_of_row _ _ j _ _ _ hxp
                          have hxfp := fun j => frozen_of_row _ _ j _ _ hxp
                          have HBp := Lib.hid hbp
                          have HXp := Lib.hid hxp
                          clear hbp hxp
                          have hn1 : wx.heap.size < wx.heap.size + 1 := by omega
                         
                          clear hcp hfp
                          repeat go_step
                         
                          go_meet
                         
                          case rel => exact ⟨rfl, (HBp.out.block _ hn1).trans ((HB7.out.block _ (by omega)).trans HWy.out), HXp.out, (by repeat' (first | (with_reducible exact Below.refl _ _) | (with_reducible (refine Below.setCell ?_ ?_ _)) | (with_reducible (refine Below.alloc ?_ ?_ _)) | (with_reducible (refine Below.drew ?_)) | (with_reducible (refine below_via ?_ HBp.out ?_)) | (with_reducible (refine below_via ?_ HB7.out ?_)) | (with_reducible (refine below_via ?_ HBY.out ?_)) | omega | (simp; done) | (simp; omega)))⟩
                    case rest =>
                      obtain ⟨rfl, hty, htd, htb⟩ := hcut
                      obtain ⟨wt, rfl⟩ : ∃ wt : World, wt = wc := ⟨_, rfl⟩
                     
                      have HTY := Lib.hid (range_row [.int .i64 r0, .int .i64 r1, .int .i64 r2, .bool r3, .int .i64 r4, .int .i64 r5, .int .i64 r6, .int .i64 r7, .bool r8, .bool r9, .bool r10, .bool r11, .bool r12, .int .i64 r13] hty)
                      have HTD := Lib.hid (range_row [.int .i64 r0, .int .i64 r1, .int .i64 r2, .bool r3, .int .i64 r4, .int .i64 r5, .int .i64 r6, .int .i64 r7, .bool r8, .bool r9, .bool r10, .bool r11, .bool r12, .int .i64 r13] htd)
                      have HTB2 := Lib.hid htb
                      have he := fun W => run_neq_ent r0 r1 r2 r3 r4 r5 r6 r7 r8 r9 r10 r11 r12 r13 r0 r1 r2 r3 r4 r5 r6 r7 r8 r9 r10 r11 r12 r13 W
                      rw [entEq_refl] at he
                      simp only [Bool.not_true] at he
                      clear HPC HPP HFA HWy HWd HW5 HW3 HW9 HW10 hty htd htb z3 zf3 z5 zf5 HY3 HY5 HY7 HIN HTB HMY HTG HPG HAC
                      go_upto_region 51 with fail
                      refine wp_region_lit ?_
                      refine wpList_load_mid rfl 36 (.tmp 13) rfl wx.heap.size 0 rfl [.int .i64 r0, .int .i64 r1, .int .i64 r2, .bool r3, .int .i64 r4, .int .i64 r5, .int .i64 r6, .int .i64 r7, .bool r8, .bool r9, .bool r10, .bool r11, .bool r12, .int .i64 r13] _ HTY.out Try.underlying36 rfl (by kernel_rfl) ?_
                      simp only [put_lit, List.set]
                      refine wpList_load_mid rfl 36 (.tmp 14) rfl (wx.heap.size + 1) 0 rfl [.int .i64 r0, .int .i64 r1, .int .i64 r2, .bool r3, .int .i64 r4, .int .i64 r5, .int .i64 r6, .int .i64 r7, .bool r8, .bool r9, .bool r10, .bool r11, .bool r12, .int .i64 r13] _ HTD.out Try.underlying36 rfl (by kernel_rfl) ?_
                      simp only [put_lit, List.set]
                      go_wp2_with fail
                      go_meet
                      case rel => exact sw_none ((HTB2.out.block _ h9b).trans HY9.out) ((HTB2.out.block _ h10b).trans HY10.out) (HTB2.out.mono (by omega))
            · have d4 : ¬ dd = 4 := by omega
              have d5 : ¬ dd = 5 := by omega
              have d6 : ¬ dd = 6 := by omega
             
              as_aux_lemma =>
              have HEN := Lib.hid (fun W => rent_any ⟨a0, a1, a2, a3, a4, a5, a6, a7, a8, a9, a10, a11, a12, a13⟩ W)
              dsimp only [Ent.cells] at HEN
              cases may
              · have HFN := Lib.hid (fun W (hb : Below w5.heap.size wx W) => Fill_no ⟨Ai, ci, es, Bi, di, ds⟩ ⟨a0, a1, a2, a3, a4, a5, a6, a7, a8, a9, a10, a11, a12, a13⟩ W (HIN.out W hb) (by show (tlbOk es ds && _) = false; rw [HMY.out]; rfl))
                dsimp only [Tl.cells, Ent.cells] at HFN
                go_wp2_with fail
                refine Calls.mono (HFN.out _ (by repeat' (first | (with_reducible exact Below.refl _ _) | (with_reducible (refine Below.setCell ?_ ?_ _)) | (with_reducible (refine Below.alloc ?_ ?_ _)) | (with_reducible (refine Below.drew ?_)) | omega | (simp; done) | (simp; omega)))) ?_
                rintro e w6 ⟨rfl, hb6⟩
                have hs6 := hb6.size
                try simp at hs6
                have hc6_0 := fun o => (bcell hb6).1 (w5.heap.size + 1) o (by first | omega | (simp; done) | (simp; omega))
                have hf6_0 := fun o => (bcell hb6).2.1 (w5.heap.size + 1) o (by first | omega | (simp; done) | (simp; omega))
                have hz6_0 := (bcell hb6).2.2 (w5.heap.size + 1) (by first | omega | (simp; done) | (simp; omega))
                have hc6_1 := fun o => (bcell hb6).1 (w5.heap.size + 1 + 1) o (by first | omega | (simp; done) | (simp; omega))
                have hf6_1 := fun o => (bcell hb6).2.1 (w5.heap.size + 1 + 1) o (by first | omega | (simp; done) | (simp; omega))
                have hz6_1 := (bcell hb6).2.2 (w5.heap.size + 1 + 1) (by first | omega | (simp; done) | (simp; omega))
                have HB6 := Lib.hid hb6
                clear hb6
                go_wp2_with fail
                go_meet
                case rel => exact sw_none (heap_set_same (heap_set_same ((HB6.out.block _ h9b).trans HY9.out) 0 _) 1 _) (by repeat (first | (with_reducible assumption) | (with_reducible exact HY10.out) | (with_reducible refine heap_below_is HB6.out (by (first | omega | (simp; done) | (simp; omega))) ?_) | (exact heap_at _ _ (by simp; done)) | (with_reducible refine heap_old_is _ _ (by (first | omega | (simp; done) | (simp; omega))) ?_) | (with_reducible refine heap_far_is (by (first | omega | (simp; done) | (simp; omega))) ?_))) (by repeat' (first | (with_reducible exact Below.refl _ _) | (with_reducible (refine Below.setCell ?_ ?_ _)) | (with_reducible (refine Below.alloc ?_ ?_ _)) | (with_reducible (refine Below.drew ?_)) | (with_reducible (refine below_via ?_ HB6.out ?_)) | omega | (simp; done) | (simp; omega)))
              · obtain ⟨k1, k2, _, _⟩ := tlbOk_ents HMY.out
                cases he : entOk ⟨a0, a1, a2, a3, a4, a5, a6, a7, a8, a9, a10, a11, a12, a13⟩
                · have HFN := Lib.hid (fun W (hb : Below w5.heap.size wx W) => Fill_no ⟨Ai, ci, es, Bi, di, ds⟩ ⟨a0, a1, a2, a3, a4, a5, a6, a7, a8, a9, a10, a11, a12, a13⟩ W (HIN.out W hb) (by show (tlbOk es ds && _) = false; rw [he, Bool.and_false]))
                  dsimp only [Tl.cells, Ent.cells] at HFN
                  rw [he] at HEN
                  clear he
                  go_wp2_with fail
                  refine Calls.mono (HEN.out _) ?_
                  rintro e w7 ⟨rfl, hb7⟩
                  have hs7 := hb7.size
                  try simp at hs7
                  have hc7_0 := fun o => (bcell hb7).1 (w5.heap.size) o (by first | omega | (simp; done) | (simp; omega))
                  have hf7_0 := fun o => (bcell hb7).2.1 (w5.heap.size) o (by first | omega | (simp; done) | (simp; omega))
                  have hz7_0 := (bcell hb7).2.2 (w5.heap.size) (by first | omega | (simp; done) | (simp; omega))
                  have hc7_1 := fun o => (bcell hb7).1 (wr.heap.size) o (by first | omega | (simp; done) | (simp; omega))
                  have hf7_1 := fun o => (bcell hb7).2.1 (wr.heap.size) o (by first | omega | (simp; done) | (simp; omega))
                  have hz7_1 := (bcell hb7).2.2 (wr.heap.size) (by first | omega | (simp; done) | (simp; omega))
                  have hc7_2 := fun o => (bcell hb7).1 (w5.heap.size + 1) o (by first | omega | (simp; done) | (simp; omega))
                  have hf7_2 := fun o => (bcell hb7).2.1 (w5.heap.size + 1) o (by first | omega | (simp; done) | (simp; omega))
                  have hz7_2 := (bcell hb7).2.2 (w5.heap.size + 1) (by first | omega | (simp; done) | (simp; omega))
                  have hc7_3 := fun o => (bcell hb7).1 (w5.heap.size + 1 + 1) o (by first | omega | (simp; done) | (simp; omega))
                  have hf7_3 := fun o => (bcell hb7).2.1 (w5.heap.size + 1 + 1) o (by first | omega | (simp; done) | (simp; omega))
                  have hz7_3 := (bcell hb7).2.2 (w5.heap.size + 1 + 1) (by first | omega | (simp; done) | (simp; omega))
                  have HB7 := Lib.hid hb7
                  clear hb7
                  go_wp2_with fail
                  refine Calls.mono (HFN.out _ (by repeat' (first | (with_reducible exact Below.refl _ _) | (with_reducible (refine Below.setCell ?_ ?_ _)) | (with_reducible (refine Below.alloc ?_ ?_ _)) | (with_reducible (refine Below.drew ?_)) | (with_reducible (refine below_via ?_ HB7.out ?_)) | omega | (simp; done) | (simp; omega)))) ?_
                  rintro e w6 ⟨rfl, hb6⟩
                  have hs6 := hb6.size
                  try simp at hs6
                  have hc6_0 := fun o => (bcell hb6).1 (w5.heap.size + 1) o (by first | omega | (simp; done) | (simp; omega))
                  have hf6_0 := fun o => (bcell hb6).2.1 (w5.heap.size + 1) o (by first | omega | (simp; done) | (simp; omega))
                  have hz6_0 := (bcell hb6).2.2 (w5.heap.size + 1) (by first | omega | (simp; done) | (simp; omega))
                  have hc6_1 := fun o => (bcell hb6).1 (w5.heap.size + 1 + 1) o (by first | omega | (simp; done) | (simp; omega))
                  have hf6_1 := fun o => (bcell hb6).2.1 (w5.heap.size + 1 + 1) o (by first | omega | (simp; done) | (simp; omega))
                  have hz6_1 := (bcell hb6).2.2 (w5.heap.size + 1 + 1) (by first | omega | (simp; done) | (simp; omega))
                  have HB6 := Lib.hid hb6
                  clear hb6
                  go_wp2_with fail
                  go_meet
                  case rel => exact sw_none (heap_set_same (heap_set_same ((HB6.out.block _ (by omega)).trans ((HB7.out.block _ h9b).trans HY9.out)) 0 _) 1 _) (by repeat (first | (with_reducible assumption) | (with_reducible exact HY10.out) | (with_reducible refine heap_below_is HB6.out (by (first | omega | (simp; done) | (simp; omega))) ?_) | (with_reducible refine heap_below_is HB7.out (by (first | omega | (simp; done) | (simp; omega))) ?_) | (exact heap_at _ _ (by simp; done)) | (with_reducible refine heap_old_is _ _ (by (first | omega | (simp; done) | (simp; omega))) ?_) | (with_reducible refine heap_far_is (by (first | omega | (simp; done) | (simp; omega))) ?_))) (by repeat' (first | (with_reducible exact Below.refl _ _) | (with_reducible (refine Below.setCell ?_ ?_ _)) | (with_reducible (refine Below.alloc ?_ ?_ _)) | (with_reducible (refine Below.drew ?_)) | (with_reducible (refine below_via ?_ HB6.out ?_)) | (with_reducible (refine below_via ?_ HB7.out ?_)) | omega | (simp; done) | (simp; omega)))
                · have HRF := Lib.hid (fun W (hb : Below w5.heap.size wx W) => rFill_any ⟨A, c, es, B, d, ds⟩ ⟨a0, a1, a2, a3, a4, a5, a6, a7, a8, a9, a10, a11, a12, a13⟩ W (HTB.out W hb) (by dsimp only; omega) (by dsimp only; omega))
                  have HFY := Lib.hid (fun W (hb : Below w5.heap.size wx W) => Fill_yes ⟨Ai, ci, es, Bi, di, ds⟩ ⟨a0, a1, a2, a3, a4, a5, a6, a7, a8, a9, a10, a11, a12, a13⟩ W (HIN.out W hb) HMY.out he)
                  have hfl : (fillE es ⟨a0, a1, a2, a3, a4, a5, a6, a7, a8, a9, a10, a11, a12, a13⟩).length ≤ 8 := (tlbOk_ents (tlbOk_fill2 HMY.out he)).1
                  rw [he] at HEN
                  clear he
                  generalize fillE es ⟨a0, a1, a2, a3, a4, a5, a6, a7, a8, a9, a10, a11, a12, a13⟩ = ex at *
                  dsimp only [Tl.cells, Ent.cells] at HRF HFY
                  go_wp2_with fail
                  refine Calls.mono (HEN.out _) ?_
                  rintro e w8 ⟨rfl, hb8⟩
                  have hs8 := hb8.size
                  try simp at hs8
                  have hc8_0 := fun o => (bcell hb8).1 (w2.heap.size) o (by first | omega | (simp; done) | (simp; omega))
                  have hf8_0 := fun o => (bcell hb8).2.1 (w2.heap.size) o (by first | omega | (simp; done) | (simp; omega))
                  have hz8_0 := (bcell hb8).2.2 (w2.heap.size) (by first | omega | (simp; done) | (simp; omega))
                  have hc8_1 := fun o => (bcell hb8).1 (w5.heap.size) o (by first | omega | (simp; done) | (simp; omega))
                  have hf8_1 := fun o => (bcell hb8).2.1 (w5.heap.size) o (by first | omega | (simp; done) | (simp; omega))
                  have hz8_1 := (bcell hb8).2.2 (w5.heap.size) (by first | omega | (simp; done) | (simp; omega))
                  have hc8_2 := fun o => (bcell hb8).1 (wr.heap.size) o (by first | omega | (simp; done) | (simp; omega))
                  have hf8_2 := fun o => (bcell hb8).2.1 (wr.heap.size) o (by first | omega | (simp; done) | (simp; omega))
                  have hz8_2 := (bcell hb8).2.2 (wr.heap.size) (by first | omega | (simp; done) | (simp; omega))
                  have hc8_3 := fun o => (bcell hb8).1 (w5.heap.size + 1) o (by first | omega | (simp; done) | (simp; omega))
                  have hf8_3 := fun o => (bcell hb8).2.1 (w5.heap.size + 1) o (by first | omega | (simp; done) | (simp; omega))
                  have hz8_3 := (bcell hb8).2.2 (w5.heap.size + 1) (by first | omega | (simp; done) | (simp; omega))
                  have hc8_4 := fun o => (bcell hb8).1 (w5.heap.size + 1 + 1) o (by first | omega | (simp; done) | (simp; omega))
                  have hf8_4 := fun o => (bcell hb8).2.1 (w5.heap.size + 1 + 1) o (by first | omega | (simp; done) | (simp; omega))
                  have hz8_4 := (bcell hb8).2.2 (w5.heap.size + 1 + 1) (by first | omega | (simp; done) | (simp; omega))
                  have HB8 := Lib.hid hb8
                  clear hb8
                  go_wp2_with fail
                  refine Calls.mono (HRF.out _ (by repeat' (first | (with_reducible exact Below.refl _ _) | (with_reducible (refine Below.setCell ?_ ?_ _)) | (with_reducible (refine Below.alloc ?_ ?_ _)) | (with_reducible (refine Below.drew ?_)) | (with_reducible (refine below_via ?_ HB8.out ?_)) | omega | (simp; done) | (simp; omega)))) ?_
                  rintro e w6 ⟨Aw, cw, Bw, dw, rfl, how, hiw, hb6⟩
                  have hs6 := hb6.size
                  try simp at hs6
                  have hc6_0 := fun o => (bcell hb6).1 (w5.heap.size) o (by first | omega | (simp; done) | (simp; omega))
                  have hf6_0 := fun o => (bcell hb6).2.1 (w5.heap.size) o (by first | omega | (simp; done) | (simp; omega))
                  have hz6_0 := (bcell hb6).2.2 (w5.heap.size) (by first | omega | (simp; done) | (simp; omega))
                  have hc6_1 := fun o => (bcell hb6).1 (wr.heap.size) o (by first | omega | (simp; done) | (simp; omega))
                  have hf6_1 := fun o => (bcell hb6).2.1 (wr.heap.size) o (by first | omega | (simp; done) | (simp; omega))
                  have hz6_1 := (bcell hb6).2.2 (wr.heap.size) (by first | omega | (simp; done) | (simp; omega))
                  have hc6_2 := fun o => (bcell hb6).1 (w5.heap.size + 1) o (by first | omega | (simp; done) | (simp; omega))
                  have hf6_2 := fun o => (bcell hb6).2.1 (w5.heap.size + 1) o (by first | omega | (simp; done) | (simp; omega))
                  have hz6_2 := (bcell hb6).2.2 (w5.heap.size + 1) (by first | omega | (simp; done) | (simp; omega))
                  have hc6_3 := fun o => (bcell hb6).1 (w5.heap.size + 1 + 1) o (by first | omega | (simp; done) | (simp; omega))
                  have hf6_3 := fun o => (bcell hb6).2.1 (w5.heap.size + 1 + 1) o (by first | omega | (simp; done) | (simp; omega))
                  have hz6_3 := (bcell hb6).2.2 (w5.heap.size + 1 + 1) (by first | omega | (simp; done) | (simp; omega))
                  have HB6 := Lib.hid hb6
                  clear hb6
                  have Hhow := Lib.hid how
                  clear how
                  have Hhiw := Lib.hid hiw
                  clear hiw
                  go_wp2_with fail
                  refine Calls.mono (HFY.out _ (by repeat' (first | (with_reducible exact Below.refl _ _) | (with_reducible (refine Below.setCell ?_ ?_ _)) | (with_reducible (refine Below.alloc ?_ ?_ _)) | (with_reducible (refine Below.drew ?_)) | (with_reducible (refine below_via ?_ HB6.out ?_)) | (with_reducible (refine below_via ?_ HB8.out ?_)) | omega | (simp; done) | (simp; omega)))) ?_
                  rintro e w7 ⟨Ax, cx, Bx, dx, rfl, hox, hix, hb7⟩
                  have hs7 := hb7.size
                  try simp at hs7
                  have hc7_0 := fun o => (bcell hb7).1 (w5.heap.size + 1) o (by first | omega | (simp; done) | (simp; omega))
                  have hf7_0 := fun o => (bcell hb7).2.1 (w5.heap.size + 1) o (by first | omega | (simp; done) | (simp; omega))
                  have hz7_0 := (bcell hb7).2.2 (w5.heap.size + 1) (by first | omega | (simp; done) | (simp; omega))
                  have hc7_1 := fun o => (bcell hb7).1 (w5.heap.size + 1 + 1) o (by first | omega | (simp; done) | (simp; omega))
                  have hf7_1 := fun o => (bcell hb7).2.1 (w5.heap.size + 1 + 1) o (by first | omega | (simp; done) | (simp; omega))
                  have hz7_1 := (bcell hb7).2.2 (w5.heap.size + 1 + 1) (by first | omega | (simp; done) | (simp; omega))
                  have HB7 := Lib.hid hb7
                  clear hb7
                  have Hhox := Lib.hid hox
                  clear hox
                  have Hhix := Lib.hid hix
                  clear hix
                  go_wp2_with fail
                  go_meet
                  case rel => exact (sw_some (by omega) (by omega) ((HB8.out.block _ h9b).trans HY9.out) ((HB8.out.block _ h10b).trans HY10.out) HB6.out rfl HB7.out Hhow.out Hhiw.out Hhox.out Hhix.out (by omega) (by omega)).from (HB8.out.mono (by omega)) 
        case rest =>
         
          obtain ⟨b, ex, dx, Ax, cx, Bx, dc, Aw, cw, Bw, dw, bx, rfl, rfl, hx9, hx10, hox, hix, hwt, hbx, hbs, hxl, hdl, hbd⟩ := hcut
          obtain ⟨wd, rfl⟩ : ∃ wd : World, wd = wc := ⟨_, rfl⟩
          have HOX := Lib.hid hox
          have HIX := Lib.hid hix
          have HWT := Lib.hid hwt
          have HBD := Lib.hid hbd
          have hsd := hbd.size
          have HD3 := Lib.hid ((hbd.block _ (by omega)).trans HY3.out)
          have HD7 := Lib.hid ((hbd.block _ (by omega)).trans HY7.out)
          have HD9 := Lib.hid hx9
          have HD10 := Lib.hid hx10
          have HBW2 := Lib.hid ((by repeat' (first | (with_reducible exact Below.refl _ _) | (with_reducible (refine Below.setCell ?_ ?_ _)) | (with_reducible (refine Below.alloc ?_ ?_ _)) | (with_reducible (refine Below.drew ?_)) | (with_reducible (refine below_via ?_ HBD.out ?_)) | (with_reducible (refine below_via ?_ HBB.out ?_)) | omega | (simp; done) | (simp; omega))) : Below w2.heap.size wo wd)
          clear hox hix hwt hx9 hx10 hbd y3 yf3 y5 yf5 y7 yf7 y9 yf9 y10 yf10
          have HBI := Lib.hid (fun W (hb : Below bx wd W) => (below_via HBD.out hb (by omega) : Below (w5.heap.size + 1) wx W).mono (Nat.le_succ _))
          have HCK := Lib.hid (fun W (hb : Below bx wd W) => Check_any ⟨A, c, es, B, d, ds⟩ W (HTB.out W (HBI.out W hb)))
          have hxl' : ex.length ≤ 140737488355328 := Nat.le_trans hxl (by decide)
          have hdl' : dx.length ≤ 140737488355328 := Nat.le_trans hdl (by decide)
          have HTX := Lib.hid (show ∀ W, Below wd.heap.size wd W → TlAt W ⟨Ax, cx, ex, Bx, dc, dx⟩ from fun W hb => TlAt.of_own (HOX.out.below hb (Nat.le_refl _)) (HIX.out.below hb (Nat.le_refl _)) hxl' hdl')
          have HTW := Lib.hid (show ∀ W, Below wd.heap.size wd W → TlAt W ⟨Aw, cw, ex, Bw, dw, dx⟩ from fun W hb => HWT.out W (hb.mono hbs))
          have HEX := Lib.hid (fun W (hb : Below wd.heap.size wd W) => EqTLB_two ex dx Ax cx Bx dc Aw cw Bw dw W (HTX.out W hb) (HTW.out W hb))
          have HEI := Lib.hid (fun W (hb : Below bx wd W) => EqTLB_two es ds Ai ci Bi di A c B d W (HIN.out W (HBI.out W hb)) (HTB.out W (HBI.out W hb)))
          have HCW := Lib.hid (fun W (hb : Below bx wd W) => CopyTLB_any ⟨Aw, cw, ex, Bw, dw, dx⟩ W (HWT.out W hb) (by dsimp only; omega) (by dsimp only; omega))
          have HSC := Lib.hid (fun W (hb : Below wd.heap.size wd W) => scrawl_any Ax ex.length cx Bx dx.length dc bx W (by omega) (by omega) (Nat.le_trans hbs hb.size) (Room.of_own (HOX.out.below hb (Nat.le_refl _))) (Room.of_own (HIX.out.below hb (Nat.le_refl _))))
          dsimp only [Tl.cells] at HCK HCW
          rw [HMY.out] at HCK
          obtain ⟨ck, hck⟩ : ∃ n, okErr may = n := ⟨_, rfl⟩
          rw [hck] at HCK
          have q1 : (ck == 0) = may := by rw [← hck]; cases may <;> rfl
          clear hck
          have h3d := heap_lt HD3.out
          have h7d := heap_lt HD7.out
          have h9d := heap_lt HD9.out
          have h10d := heap_lt HD10.out
          have d3 := fun j => cell_of_row _ _ j _ _ _ HD3.out
          have df3 := fun j => frozen_of_row _ _ j _ _ HD3.out
          have d7 := fun j => cell_of_row _ _ j _ _ _ HD7.out
          have df7 := fun j => frozen_of_row _ _ j _ _ HD7.out
          have d9 := fun j => cell_of_row _ _ j _ _ _ HD9.out
          have df9 := fun j => frozen_of_row _ _ j _ _ HD9.out
          have d10 := fun j => cell_of_row _ _ j _ _ _ HD10.out
          have df10 := fun j => frozen_of_row _ _ j _ _ HD10.out
          go_wp2_with fail
          refine Calls.mono (HCK.out _ (Below.refl _ _)) ?_
          rintro e w6 ⟨rfl, hb6⟩
          have hs6 := hb6.size
          try simp at hs6
          have hc6_0 := fun o => (bcell hb6).1 (w2.heap.size) o (by first | omega | (simp; done) | (simp; omega))
          have hf6_0 := fun o => (bcell hb6).2.1 (w2.heap.size) o (by first | omega | (simp; done) | (simp; omega))
          have hz6_0 := (bcell hb6).2.2 (w2.heap.size) (by first | omega | (simp; done) | (simp; omega))
          have hc6_1 := fun o => (bcell hb6).1 (w5.heap.size) o (by first | omega | (simp; done) | (simp; omega))
          have hf6_1 := fun o => (bcell hb6).2.1 (w5.heap.size) o (by first | omega | (simp; done) | (simp; omega))
          have hz6_1 := (bcell hb6).2.2 (w5.heap.size) (by first | omega | (simp; done) | (simp; omega))
          have hc6_2 := fun o => (bcell hb6).1 (w5.heap.size + 1) o (by first | omega | (simp; done) | (simp; omega))
          have hf6_2 := fun o => (bcell hb6).2.1 (w5.heap.size + 1) o (by first | omega | (simp; done) | (simp; omega))
          have hz6_2 := (bcell hb6).2.2 (w5.heap.size + 1) (by first | omega | (simp; done) | (simp; omega))
          have hc6_3 := fun o => (bcell hb6).1 (w5.heap.size + 1 + 1) o (by first | omega | (simp; done) | (simp; omega))
          have hf6_3 := fun o => (bcell hb6).2.1 (w5.heap.size + 1 + 1) o (by first | omega | (simp; done) | (simp; omega))
          have hz6_3 := (bcell hb6).2.2 (w5.heap.size + 1 + 1) (by first | omega | (simp; done) | (simp; omega))
          have HB6 := Lib.hid hb6
          clear hb6
          go_wp2_with (go_at_call 28; refine (HNU.out _ _).mono ?_; rintro e w' ⟨rfl, rfl⟩)
          refine Calls.mono (HEX.out _ HB6.out) ?_
          rintro e w7 ⟨rfl, hb7⟩
          have hs7 := hb7.size
          try simp at hs7
          have hc7_0 := fun o => (bcell hb7).1 (w2.heap.size) o (by first | omega | (simp; done) | (simp; omega))
          have hf7_0 := fun o => (bcell hb7).2.1 (w2.heap.size) o (by first | omega | (simp; done) | (simp; omega))
          have hz7_0 := (bcell hb7).2.2 (w2.heap.size) (by first | omega | (simp; done) | (simp; omega))
          have hc7_1 := fun o => (bcell hb7).1 (w5.heap.size) o (by first | omega | (simp; done) | (simp; omega))
          have hf7_1 := fun o => (bcell hb7).2.1 (w5.heap.size) o (by first | omega | (simp; done) | (simp; omega))
          have hz7_1 := (bcell hb7).2.2 (w5.heap.size) (by first | omega | (simp; done) | (simp; omega))
          have hc7_2 := fun o => (bcell hb7).1 (w5.heap.size + 1) o (by first | omega | (simp; done) | (simp; omega))
          have hf7_2 := fun o => (bcell hb7).2.1 (w5.heap.size + 1) o (by first | omega | (simp; done) | (simp; omega))
          have hz7_2 := (bcell hb7).2.2 (w5.heap.size + 1) (by first | omega | (simp; done) | (simp; omega))
          have hc7_3 := fun o => (bcell hb7).1 (w5.heap.size + 1 + 1) o (by first | omega | (simp; done) | (simp; omega))
          have hf7_3 := fun o => (bcell hb7).2.1 (w5.heap.size + 1 + 1) o (by first | omega | (simp; done) | (simp; omega))
          have hz7_3 := (bcell hb7).2.2 (w5.heap.size + 1 + 1) (by first | omega | (simp; done) | (simp; omega))
          have HB7 := Lib.hid hb7
          clear hb7
          go_wp2_with fail
          have HA7 := Lib.hid (((by repeat' (first | (with_reducible exact Below.refl _ _) | (with_reducible (refine Below.setCell ?_ ?_ _)) | (with_reducible (refine Below.alloc ?_ ?_ _)) | (with_reducible (refine Below.drew ?_)) | (with_reducible (refine below_via ?_ HB7.out ?_)) | (with_reducible (refine below_via ?_ HB6.out ?_)) | omega | (simp; done) | (simp; omega))) : Below wd.heap.size wd w7).mono hbs)
          refine Calls.mono (HEI.out _ HA7.out) ?_
          rintro e w8 ⟨rfl, hb8⟩
          have hs8 := hb8.size
          try simp at hs8
          have hc8_0 := fun o => (bcell hb8).1 (w2.heap.size) o (by first | omega | (simp; done) | (simp; omega))
          have hf8_0 := fun o => (bcell hb8).2.1 (w2.heap.size) o (by first | omega | (simp; done) | (simp; omega))
          have hz8_0 := (bcell hb8).2.2 (w2.heap.size) (by first | omega | (simp; done) | (simp; omega))
          have hc8_1 := fun o => (bcell hb8).1 (w5.heap.size) o (by first | omega | (simp; done) | (simp; omega))
          have hf8_1 := fun o => (bcell hb8).2.1 (w5.heap.size) o (by first | omega | (simp; done) | (simp; omega))
          have hz8_1 := (bcell hb8).2.2 (w5.heap.size) (by first | omega | (simp; done) | (simp; omega))
          have hc8_2 := fun o => (bcell hb8).1 (w5.heap.size + 1) o (by first | omega | (simp; done) | (simp; omega))
          have hf8_2 := fun o => (bcell hb8).2.1 (w5.heap.size + 1) o (by first | omega | (simp; done) | (simp; omega))
          have hz8_2 := (bcell hb8).2.2 (w5.heap.size + 1) (by first | omega | (simp; done) | (simp; omega))
          have hc8_3 := fun o => (bcell hb8).1 (w5.heap.size + 1 + 1) o (by first | omega | (simp; done) | (simp; omega))
          have hf8_3 := fun o => (bcell hb8).2.1 (w5.heap.size + 1 + 1) o (by first | omega | (simp; done) | (simp; omega))
          have hz8_3 := (bcell hb8).2.2 (w5.heap.size + 1 + 1) (by first | omega | (simp; done) | (simp; omega))
          have HB8 := Lib.hid hb8
          clear hb8
          go_wp2_with fail
          have HA8 := Lib.hid ((by repeat' (first | (with_reducible exact Below.refl _ _) | (with_reducible (refine Below.setCell ?_ ?_ _)) | (with_reducible (refine Below.alloc ?_ ?_ _)) | (with_reducible (refine Below.drew ?_)) | (with_reducible (refine below_via ?_ HB8.out ?_)) | (with_reducible (refine below_via ?_ HB7.out ?_)) | (with_reducible (refine below_via ?_ HB6.out ?_)) | omega | (simp; done) | (simp; omega))) : Below wd.heap.size wd w8)
          have hb3x : w2.heap.size < bx := by omega
          have hb7x : w5.heap.size < bx := by omega
          have hb10x : w5.heap.size + 1 + 1 < bx := by omega
          refine Calls.mono (HSC.out _ HA8.out) ?_
          rintro e w9 ⟨rfl, hb9⟩
          have hs9 := hb9.size
          have hc9_0 := fun o => hb9.cell (p := ⟨w2.heap.size, o, none⟩) hb3x
          have hf9_0 := fun o => hb9.frozen (p := ⟨w2.heap.size, o, none⟩) hb3x
          have hz9_0 : w2.heap.size < w9.heap.size := by omega
          have hc9_1 := fun o => hb9.cell (p := ⟨w5.heap.size, o, none⟩) hb7x
          have hf9_1 := fun o => hb9.frozen (p := ⟨w5.heap.size, o, none⟩) hb7x
          have hz9_1 : w5.heap.size < w9.heap.size := by omega
          have hc9_2 := fun o => hb9.cell (p := ⟨w5.heap.size + 1 + 1, o, none⟩) hb10x
          have hf9_2 := fun o => hb9.frozen (p := ⟨w5.heap.size + 1 + 1, o, none⟩) hb10x
          have hz9_2 : w5.heap.size + 1 + 1 < w9.heap.size := by omega
          have HB9 := Lib.hid hb9
          clear hb9
          have HA9 := Lib.hid ((HA8.out.mono hbs).trans HB9.out)
          go_wp2_with fail
          refine Calls.mono (HEI.out _ HA9.out) ?_
          rintro e w10 ⟨rfl, hb10⟩
          have hs10 := hb10.size
          try simp at hs10
          have hc10_0 := fun o => (bcell hb10).1 (w2.heap.size) o (by first | omega | (simp; done) | (simp; omega))
          have hf10_0 := fun o => (bcell hb10).2.1 (w2.heap.size) o (by first | omega | (simp; done) | (simp; omega))
          have hz10_0 := (bcell hb10).2.2 (w2.heap.size) (by first | omega | (simp; done) | (simp; omega))
          have hc10_1 := fun o => (bcell hb10).1 (w5.heap.size + 1 + 1) o (by first | omega | (simp; done) | (simp; omega))
          have hf10_1 := fun o => (bcell hb10).2.1 (w5.heap.size + 1 + 1) o (by first | omega | (simp; done) | (simp; omega))
          have hz10_1 := (bcell hb10).2.2 (w5.heap.size + 1 + 1) (by first | omega | (simp; done) | (simp; omega))
          have HB10 := Lib.hid hb10
          clear hb10
          have HA10 := Lib.hid (below_via HA9.out HB10.out (by have := HA9.out.size; omega))
          have hs10 := HA10.out.size
          have HE3 := Lib.hid ((HA10.out.block _ hb3x).trans HD3.out)
          have HE10 := Lib.hid ((HA10.out.block _ hb10x).trans HD10.out)
          have HBE := Lib.hid (below_via HBW2.out HA10.out (by omega))
          have h3e := heap_lt HE3.out
          have h10e := heap_lt HE10.out
          clear d3 df3 d7 df7 d9 df9 d10 df10 hc6_0 hf6_0 hz6_0 hc6_1 hf6_1 hz6_1 hc6_2 hf6_2 hz6_2 hc6_3 hf6_3 hz6_3 hc7_0 hf7_0 hz7_0 hc7_1 hf7_1 hz7_1 hc7_2 hf7_2 hz7_2 hc7_3 hf7_3 hz7_3 hc8_0 hf8_0 hz8_0 hc8_1 hf8_1 hz8_1 hc8_2 hf8_2 hz8_2 hc8_3 hf8_3 hz8_3 hc9_0 hf9_0 hz9_0 hc9_1 hf9_1 hz9_1 hc9_2 hf9_2 hz9_2 hc10_0 hf10_0 hz10_0 hc10_1 hf10_1 hz10_1
          have e3 := fun j => cell_of_row _ _ j _ _ _ HE3.out
          have ef3 := fun j => frozen_of_row _ _ j _ _ HE3.out
          have e10 := fun j => cell_of_row _ _ j _ _ _ HE10.out
          have ef10 := fun j => frozen_of_row _ _ j _ _ HE10.out
          go_upto_region 58 with fail
          go_cut [250] from 245 to 245 (fun v W => ∃ g, v = .bool g ∧ w10 = W)
          case first =>
            cases hb0 : (b == 0)
            · go_wp2_with fail
              go_meet
              case rel => exact ⟨false, rfl, rfl⟩
            · cases hd4 : decide (dd < 4)
              · go_wp2_with fail
                go_meet
                case rel => exact ⟨false, rfl, rfl⟩
              · go_wp2_with fail
                go_meet
                case rel => exact ⟨true, rfl, rfl⟩
          case rest =>
            obtain ⟨g, rfl, rfl⟩ := hcut
            cases g
            ·
              go_wp2_with fail
              go_roundg (20 - (k + 1))
              case rel => exact ⟨k + 1, hlt, hlt12, rfl, by go_num, ⟨es, ds, A, c, B, d, HE3.out, HTB.out w10 (HBI.out _ HA10.out), hes, hds⟩, HBE.out⟩
              case measure => exact gk_lt HGK.out hlt12
            · have hf3 : w2.heap.size < w10.heap.size + 3 := Nat.lt_of_lt_of_le h3e (Nat.le_add_right _ 3)
             
              go_wp2_with fail
              refine Calls.mono (HCW.out _ HA10.out) ?_
              rintro e w11 ⟨An, cn, Bn, dn, rfl, hon, hin, hb11⟩
              have hs11 := hb11.size
              try simp at hs11
              have hc11_0 := fun o => (bcell hb11).1 (w2.heap.size) o (by first | omega | (simp; done) | (simp; omega))
              have hf11_0 := fun o => (bcell hb11).2.1 (w2.heap.size) o (by first | omega | (simp; done) | (simp; omega))
              have hz11_0 := (bcell hb11).2.2 (w2.heap.size) (by first | omega | (simp; done) | (simp; omega))
              have HB11 := Lib.hid hb11
              clear hb11
              have Hhon := Lib.hid hon
              clear hon
              have Hhin := Lib.hid hin
              clear hin
              go_wp2_with fail
              go_roundg (20 - (k + 1))
              case rel => exact ⟨k + 1, hlt, hlt12, rfl, by go_num, ⟨ex, dx, An, cn, Bn, dn, heap_set_same (heap_set_same ((HB11.out.block _ h3e).trans HE3.out) 0 _) 1 _, TlAt.of_own ((Hhon.out.set_far hf3 _).set_far hf3 _) ((Hhin.out.set_far hf3 _).set_far hf3 _) hxl' hdl', Nat.le_trans hxl (by decide), Nat.le_trans hdl (by decide)⟩, Below.setCell (Below.setCell (below_via HBE.out HB11.out (Nat.le_of_lt h3e)) (Nat.le_refl _) _) (Nat.le_refl _) _⟩
              case measure => exact gk_lt HGK.out hlt12
      · by_cases hka : k < l.length
        · obtain rfl : k = 20 := by omega
          have hki : (20 : Int) < l.length := by omega
          go_wp2_with fail
          refine Calls.mono (HWA.out _) ?_
          rintro e w5 ⟨rfl, hb5⟩
          have hs5 := hb5.size
          try simp at hs5
          have HB5 := Lib.hid hb5
          clear hb5
          go_wp2
          go_ret
          exact ⟨rfl, (by repeat' (first | (with_reducible exact Below.refl _ _) | (with_reducible (refine Below.setCell ?_ ?_ _)) | (with_reducible (refine Below.alloc ?_ ?_ _)) | (with_reducible (refine Below.drew ?_)) | (with_reducible (refine below_via ?_ HB5.out ?_)) | (with_reducible (refine below_via ?_ HBW.out ?_)) | (with_reducible (refine below_via ?_ HB.out ?_)) | omega | (simp; done) | (simp; omega)))⟩
        · have hki : ¬ (k : Int) < l.length := by omega
          go_wp2_with fail
          refine Calls.mono (HWA.out _) ?_
          rintro e w5 ⟨rfl, hb5⟩
          have hs5 := hb5.size
          try simp at hs5
          have HB5 := Lib.hid hb5
          clear hb5
          go_wp2
          go_ret
          exact ⟨rfl, (by repeat' (first | (with_reducible exact Below.refl _ _) | (with_reducible (refine Below.setCell ?_ ?_ _)) | (with_reducible (refine Below.alloc ?_ ?_ _)) | (with_reducible (refine Below.drew ?_)) | (with_reducible (refine below_via ?_ HB5.out ?_)) | (with_reducible (refine below_via ?_ HBW.out ?_)) | (with_reducible (refine below_via ?_ HB.out ?_)) | omega | (simp; done) | (simp; omega)))⟩

end Go.Proofs.Ytbaninglcafhhaa
