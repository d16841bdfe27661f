/-
  A script that looks for entries of one kind, beside fills: 'kind' is 'TlbExact' of it. Conditions: the argument reads as such.
-/
import Derived.Test.YtbaninglcafhhaaExactP
namespace Go.Proofs.Ytbaninglcafhhaa
open Go.RowKit

theorem set_head {w : World} {g : Nat} {T : TypeId} {x : Value} (y : Value) {r : List Value} (h : w.heap[g]? = some (.cells (x :: r).toArray T (0, 0))) : (w.setCell ⟨g, 0, none⟩ y).heap[g]? = some (.cells (y :: r).toArray T (0, 0)) := by
  rw [heap_set_same h 0 y]
  simp
theorem act9_info : (Try.prog.info? actT).map (fun i => (i.zero, i.size, i.bytes)) = some (some (.agg #[.int .i64 0, .int .i64 0, .int .i64 0, .int .i64 0, .int .i64 0, .int .i64 0, .int .i64 0, .int .i64 0, .bool false, .int .i64 0, .int .i64 0, .int .i64 0, .int .i64 0, .bool false, .bool false, .bool false, .bool false, .bool false, .int .i64 0]), 19, 120) := by kernel_rfl
theorem act9_ones (a : ActT) : ∀ u ∈ a.cells, u.oneCell' = true := fun u h => by
  simp only [ActT.cells, Ent.cells, List.mem_cons, List.not_mem_nil, or_false] at h
  rcases h with rfl | rfl | rfl | rfl | rfl | rfl | rfl | rfl | rfl | rfl | rfl | rfl | rfl | rfl | rfl | rfl | rfl | rfl | rfl <;> rfl

set_option maxRecDepth 100000 in
set_option maxHeartbeats 8000000 in
theorem kind9_any (HEXA : ∀ (q : ScrT) (W : World), ScrAt W q → Calls Try.prog 14 #[.agg q.cells.toArray] W fun e w' => e = .returned (.bool true) ∧ Below W.heap.size W w')
    (q : ScrT) (dk : Int) (w : World) (hq : ScrAt w q) (hdk : isInt dk) :
    Calls Try.prog 63 #[.agg q.cells.toArray, .int .i64 dk] w fun e w' => e = .returned (.bool true) ∧ Below w.heap.size w w' := by
  have HHV := Lib.hid (fun W (hb : Below w.heap.size w W) => heavy9_any q W (hq.below hb))
  have HL := Lib.hid hq.lat
  have HLO := Lib.hid hq.lok
  have HTK := Lib.hid (fun W (hb : Below w.heap.size w W) => (hq.below hb).tok)
  have HEX := Lib.hid HEXA
  have HDK := Lib.hid hdk
  have hll := hq.llen
  clear hq HEXA hdk
  obtain ⟨⟨ea, ec, es0, da, dc, ds0⟩, la, lc, l⟩ := q
  dsimp only [ScrT.cells] at *
  obtain ⟨i0, hi0, hz0, hz1', hz2⟩ := info_parts act9_info
  have HI0 := Lib.hid hi0
  have HZ0 := Lib.hid hz0
  have HZ1 := Lib.hid hz1'
  have HZ2 := Lib.hid hz2
  clear hi0 hz0 hz1' hz2
  go_enter Try.func63, Try.ntmps63
  go_wp2_with fail
  refine (HHV.out _ (by repeat' (first | (with_reducible exact Below.refl _ _) | (with_reducible (refine Below.setCell ?_ ?_ _)) | (with_reducible (refine Below.alloc ?_ ?_ _)) | (with_reducible (refine Below.drew ?_)) | omega | (simp; done) | (simp; omega)))).mono ?_
  rintro e w1 ⟨b, hlight, rfl, hb1⟩
  have HLI := Lib.hid hlight
  clear hlight HHV
  have hs1 := hb1.size
  simp at hs1
  have hc1 := fun o => (bcell hb1).1 w.heap.size o (by simp)
  have hf1 := fun o => (bcell hb1).2.1 w.heap.size o (by simp)
  have hz1 : w.heap.size < w1.heap.size := by omega
  have HB1 := Lib.hid hb1
  clear hb1
  cases b
  case true =>
    go_wp2
    go_ret
    exact ⟨rfl, (by repeat' (first | (with_reducible exact Below.refl _ _) | (with_reducible (refine Below.setCell ?_ ?_ _)) | (with_reducible (refine Below.alloc ?_ ?_ _)) | (with_reducible (refine Below.drew ?_)) | (with_reducible (refine below_via ?_ HB1.out ?_)) | omega | (simp; done) | (simp; omega)))⟩
  case false =>
    obtain ⟨_, _, hl500⟩ := HLI.out rfl
    dsimp only at hl500
    go_wp2_with fail
    refine name_world ?_
    intro wo hwo
    have HX := Lib.hid (show wo.heap[w.heap.size]? = some (.cells #[.slice ea es0.length ec, .slice da ds0.length dc, .slice la l.length lc] scrT (0, 0)) by rw [hwo]; exact (by repeat (first | (with_reducible assumption) | (with_reducible refine heap_below_is HB1.out (by (first | omega | (simp; done) | (simp; omega))) ?_) | (exact heap_at _ _ (by simp; done)) | (with_reducible refine heap_old_is _ _ (by (first | omega | (simp; done) | (simp; omega))) ?_) | (with_reducible refine heap_far_is (by (first | omega | (simp; done) | (simp; omega))) ?_))))
    have HXQ := Lib.hid (show wo.heap[w1.heap.size]? = some (.cells #[.slice ea es0.length ec, .slice da ds0.length dc, .slice none 0 0] scrT (0, 0)) by rw [hwo]; exact heap_new _ _)
    have HB := Lib.hid (show Below w.heap.size w wo by rw [hwo]; repeat' (first | (with_reducible exact Below.refl _ _) | (with_reducible (refine Below.setCell ?_ ?_ _)) | (with_reducible (refine Below.alloc ?_ ?_ _)) | (with_reducible (refine Below.drew ?_)) | (with_reducible (refine below_via ?_ HB1.out ?_)) | omega | (simp; done) | (simp; omega)))
    have hso : w1.heap.size < wo.heap.size := by rw [hwo]; simp
    clear hwo hc1 hf1
    go_loopg [6] l.length (fun gg i wr => ∃ (k : Nat) (ls : List ActT) (A : Option Addr) (c : Nat), k ≤ l.length ∧ gg = l.length - k ∧ i = .int .i64 k ∧ ls.length = k ∧ (∀ a ∈ ls, ActI a) ∧ Own wr wo.heap.size actT 19 ActT.cells ls A c ∧
      wr.heap[w1.heap.size]? = some (.cells #[.slice ea es0.length ec, .slice da ds0.length dc, .slice A k c] scrT (0, 0)) ∧ Below w1.heap.size wo wr ∧ wo.heap.size ≤ wr.heap.size)
    case atStart => exact ⟨0, [], none, 0, Nat.zero_le _, rfl, rfl, rfl, fun a h => (by cases h), World.ownsRow_nil _ _ _ _, HXQ.out, Below.refl _ _, Nat.le_refl _⟩
    case round =>
      obtain ⟨k, ls, A, c, hk, hgk, rfl, hlen, hok, hown, hxq, hbw, hsz2⟩ := hrel
      have HGK := Lib.hid hgk
      have HLEN := Lib.hid hlen
      have HOK := Lib.hid hok
      have HOWN := Lib.hid hown
      have HXQ2 := Lib.hid hxq
      have HBW := Lib.hid hbw
      have HXR := Lib.hid ((hbw.block _ hz1).trans HX.out)
      have hql := heap_lt hxq
      have hxl := heap_lt HXR.out
      have e2 := cell_of_row _ _ 2 _ _ _ HXR.out
      have ef := fun j => frozen_of_row _ _ j _ _ HXR.out
      clear hgk hlen hok hown hxq hbw
      by_cases hlt : k < l.length
      · have HBR := Lib.hid ((by repeat' (first | (with_reducible exact Below.refl _ _) | (with_reducible (refine Below.setCell ?_ ?_ _)) | (with_reducible (refine Below.alloc ?_ ?_ _)) | (with_reducible (refine Below.drew ?_)) | (with_reducible (refine below_via ?_ HBW.out ?_)) | (with_reducible (refine below_via ?_ HB.out ?_)) | omega | (simp; done) | (simp; omega))) : Below w.heap.size w wr)
        obtain ⟨be, oe, rfl, hbe, hce⟩ := at_cells HL.out HBR.out hlt
        have HAI := Lib.hid (HLO.out l[k] (List.getElem_mem hlt))
        have hki : (k : Int) < l.length := by omega
        obtain ⟨a, ha⟩ : ∃ a, l[k] = a := ⟨_, rfl⟩
        rw [ha] at hce HAI
        clear ha
        obtain ⟨do_, n, vm, asd, acc, e⟩ := a
        dsimp only [ActT.cells] at hce
        obtain ⟨a0, a1, a2, a3, a4, a5, a6, a7, a8, a9, a10, a11, a12, a13⟩ := e
        dsimp only [Ent.cells] at hce
        have HRG := Lib.hid (show wr.rangeAt be (oe + k * 19) [.int .i64 do_, .int .i64 n, .int .i64 vm, .int .i64 asd, .int .i64 acc, .int .i64 a0, .int .i64 a1, .int .i64 a2, .bool a3, .int .i64 a4, .int .i64 a5, .int .i64 a6, .int .i64 a7, .bool a8, .bool a9, .bool a10, .bool a11, .bool a12, .int .i64 a13] from hce)
        clear hce
        go_upto_region 7 with fail
        refine wp_region_lit ?_
        refine wpList_plain rfl fun K hK => ?_
        unfold Oper.wp execOp
        go_simp
        refine hK _ _ ?_
        clear hK K
        refine wpList_plain rfl fun K hK => ?_
        unfold Oper.wp execOp
        go_simp
        refine hK _ _ ?_
        clear hK K
        refine wpList_plain rfl fun K hK => ?_
        unfold Oper.wp execOp
        go_simp
        refine hK _ _ ?_
        clear hK K
        refine wpList_plain rfl fun K hK => ?_
        unfold Oper.wp execOp
        go_simp
        refine hK _ _ ?_
        clear hK K
        refine wpList_load_mid rfl 49 (.tmp 23) rfl be (oe + k * 19) rfl [.int .i64 do_, .int .i64 n, .int .i64 vm, .int .i64 asd, .int .i64 acc, .int .i64 a0, .int .i64 a1, .int .i64 a2, .bool a3, .int .i64 a4, .int .i64 a5, .int .i64 a6, .int .i64 a7, .bool a8, .bool a9, .bool a10, .bool a11, .bool a12, .int .i64 a13] _ HRG.out Try.underlying49 rfl (by kernel_rfl) ?_
        simp only [put_lit, List.set]
        refine wpList_plain rfl fun K hK => ?_
        unfold Oper.wp execOp
        go_simp
        refine hK _ _ ?_
        clear hK K
        refine wpList_store_mid rfl 49 (.tmp 7) (.tmp 24) rfl wr.heap.size 0 #[.int .i64 do_, .int .i64 n, .int .i64 vm, .int .i64 asd, .int .i64 acc, .int .i64 a0, .int .i64 a1, .int .i64 a2, .bool a3, .int .i64 a4, .int .i64 a5, .int .i64 a6, .int .i64 a7, .bool a8, .bool a9, .bool a10, .bool a11, .bool a12, .int .i64 a13] rfl rfl (there_new wr #[.int .i64 0, .int .i64 0, .int .i64 0, .int .i64 0, .int .i64 0, .int .i64 0, .int .i64 0, .int .i64 0, .bool false, .int .i64 0, .int .i64 0, .int .i64 0, .int .i64 0, .bool false, .bool false, .bool false, .bool false, .bool false, .int .i64 0] actT) (by kernel_rfl) (by simp [Value.oneCell']) ?_
        simp only [put_lit_none]
        go_upto_region 8 with fail
        refine name_world ?_
        intro wy hwy
        have HAY := Lib.hid (show wy.heap[wr.heap.size]? = some (.cells ([.int .i64 do_, .int .i64 n, .int .i64 vm, .int .i64 asd, .int .i64 acc, .int .i64 a0, .int .i64 a1, .int .i64 a2, .bool a3, .int .i64 a4, .int .i64 a5, .int .i64 a6, .int .i64 a7, .bool a8, .bool a9, .bool a10, .bool a11, .bool a12, .int .i64 a13] : List Value).toArray actT (0, 0)) by rw [hwy]; exact heap_whole [.int .i64 do_, .int .i64 n, .int .i64 vm, .int .i64 asd, .int .i64 acc, .int .i64 a0, .int .i64 a1, .int .i64 a2, .bool a3, .int .i64 a4, .int .i64 a5, .int .i64 a6, .int .i64 a7, .bool a8, .bool a9, .bool a10, .bool a11, .bool a12, .int .i64 a13] (heap_new _ _) rfl)
        have HYW := Lib.hid (show Below wr.heap.size wr wy by rw [hwy]; exact below_cells (Nat.le_refl _) _ _ _ ((Below.refl _ _).alloc (Nat.le_refl _) _))
        clear hwy
        have y7 := cell_of_row _ _ 0 _ _ _ HAY.out
        have yf7 := frozen_of_row _ _ 0 _ _ HAY.out
        go_upto_region 9 with fail
        refine name_world ?_
        intro wz hwz
        have HAZ := Lib.hid (show wz.heap[wr.heap.size]? = some (.cells ([.int .i64 0, .int .i64 n, .int .i64 vm, .int .i64 asd, .int .i64 acc, .int .i64 a0, .int .i64 a1, .int .i64 a2, .bool a3, .int .i64 a4, .int .i64 a5, .int .i64 a6, .int .i64 a7, .bool a8, .bool a9, .bool a10, .bool a11, .bool a12, .int .i64 a13] : List Value).toArray actT (0, 0)) by rw [hwz]; exact set_head _ HAY.out)
        have HZW := Lib.hid (show Below wr.heap.size wr wz by rw [hwz]; repeat' (first | (with_reducible exact Below.refl _ _) | (with_reducible (refine Below.setCell ?_ ?_ _)) | (with_reducible (refine Below.alloc ?_ ?_ _)) | (with_reducible (refine Below.drew ?_)) | (with_reducible (refine below_via ?_ HYW.out ?_)) | omega | (simp; done) | (simp; omega)))
        clear hwz y7 yf7 e2 ef
        have z7 := cell_of_row _ _ 0 _ _ _ HAZ.out
        have zf7 := frozen_of_row _ _ 0 _ _ HAZ.out
        go_upto_if 28 with fail
        go_cut [28] from 30 to 30 (fun _ W => ∃ e1 : Int, isInt e1 ∧ W.heap[wr.heap.size]? = some (.cells ([.int .i64 e1, .int .i64 n, .int .i64 vm, .int .i64 asd, .int .i64 acc, .int .i64 a0, .int .i64 a1, .int .i64 a2, .bool a3, .int .i64 a4, .int .i64 a5, .int .i64 a6, .int .i64 a7, .bool a8, .bool a9, .bool a10, .bool a11, .bool a12, .int .i64 a13] : List Value).toArray actT (0, 0)) ∧ Below wr.heap.size wr W)
        case first =>
          cases hodd : ((k : Int) % 2 == 1)
          · go_wp2_with fail
            go_meet
            case rel => exact ⟨0, ⟨by decide, by decide⟩, HAZ.out, HZW.out⟩
          · go_wp2_with fail
            go_meet
            case rel => exact ⟨dk, HDK.out, set_head _ HAZ.out, HZW.out.setCell (Nat.le_refl _) _⟩
        case rest =>
          obtain ⟨e1, he1, hax, hbx⟩ := hcut
          obtain ⟨wx, rfl⟩ : ∃ wx : World, wx = wc := ⟨_, rfl⟩
          have HE1 := Lib.hid he1
          have HAX := Lib.hid (range_row [.int .i64 e1, .int .i64 n, .int .i64 vm, .int .i64 asd, .int .i64 acc, .int .i64 a0, .int .i64 a1, .int .i64 a2, .bool a3, .int .i64 a4, .int .i64 a5, .int .i64 a6, .int .i64 a7, .bool a8, .bool a9, .bool a10, .bool a11, .bool a12, .int .i64 a13] hax)
          have HBX := Lib.hid hbx
          have hsx := hbx.size
          have HXX := Lib.hid ((hbx.block _ hql).trans HXQ2.out)
          have HOX := Lib.hid (HOWN.out.below hbx (Nat.le_refl _))
          obtain ⟨ls2, hls2⟩ : ∃ x, x = ls ++ [⟨e1, n, vm, asd, acc, ⟨a0, a1, a2, a3, a4, a5, a6, a7, a8, a9, a10, a11, a12, a13⟩⟩] := ⟨_, rfl⟩
          have HLS := Lib.hid hls2
          have HL2 := Lib.hid (show ls2.length = k + 1 by rw [hls2, List.length_append, HLEN.out]; rfl)
          clear z7 zf7 he1 hax hbx hls2
          have x2 := cell_of_row _ _ 2 _ _ _ HXX.out
          have xf := fun j => frozen_of_row _ _ j _ _ HXX.out
          have hqx := heap_lt HXX.out
          go_upto_region 11 with fail
          refine wp_region_lit ?_
          refine wpList_plain rfl fun K hK => ?_
          unfold Oper.wp execOp
          go_simp
          refine hK _ _ ?_
          clear hK K
          refine wpList_plain rfl fun K hK => ?_
          unfold Oper.wp execOp
          go_simp
          refine hK _ _ ?_
          clear hK K
          refine wpList_load_mid rfl 49 (.tmp 7) rfl wr.heap.size 0 rfl [.int .i64 e1, .int .i64 n, .int .i64 vm, .int .i64 asd, .int .i64 acc, .int .i64 a0, .int .i64 a1, .int .i64 a2, .bool a3, .int .i64 a4, .int .i64 a5, .int .i64 a6, .int .i64 a7, .bool a8, .bool a9, .bool a10, .bool a11, .bool a12, .int .i64 a13] _ HAX.out Try.underlying49 rfl (by kernel_rfl) ?_
          simp only [put_lit, List.set]
          go_wp2_with (at_builtin; refine wpList_one rfl (.tmp 32) (.tmp 34) _ rfl wo.heap.size actT i0 _ 19 120 Try.underlying44 HI0.out HZ0.out HZ1.out HZ2.out rfl (by omega) actt_len act9_ones ls ls2 ⟨e1, n, vm, asd, acc, ⟨a0, a1, a2, a3, a4, a5, a6, a7, a8, a9, a10, a11, a12, a13⟩⟩ HLS.out A c (by rw [HLEN.out]; rfl) (HOX.out.alloc _) _ rfl (heap_new _ _) (by have := HLEN.out; simp only [maxLen]; omega) (by have := HLEN.out; omega) (by simp; omega) ?_; intro A5 c5 w5 ho5 hb5 _; have HO5 := Lib.hid ho5; have HB5 := Lib.hid hb5; have hs5 := hb5.size; clear ho5 hb5; (try simp at hs5); have HX5 := Lib.hid ((HB5.out.block _ hso).trans ((heap_old _ _ hqx).trans HXX.out)); have x5 := fun j => cell_of_row _ _ j _ _ _ HX5.out; have xf5 := fun j => frozen_of_row _ _ j _ _ HX5.out)
          go_roundg (l.length - (k + 1))
          case rel =>
            refine ⟨k + 1, ls2, A5, c5, hlt, rfl, by go_num, HL2.out, ?_, HO5.out.set_far hso _, ?_, ?_, ?_⟩
            · intro b hb
              rw [HLS.out] at hb
              rcases List.mem_append.1 hb with hb | hb
              · exact HOK.out b hb
              · rw [List.mem_singleton.1 hb]
                exact ⟨HE1.out, HAI.out.2⟩
            · have h := heap_set_same HX5.out 2 (.slice A5 ls2.length c5)
              rw [HL2.out] at h
              rw [HL2.out]
              exact h
            · exact (below_via HBW.out (below_via (HBX.out.mono hsz2) (below_via ((Below.refl _ _).alloc (by omega) _) HB5.out (Nat.le_refl _)) (Nat.le_refl _)) (Nat.le_of_lt hso)).setCell (Nat.le_refl _) _
            · rw [size_set]; omega
          case measure => have := HGK.out; omega
      · have hkk : k = l.length := by omega
        have HME := Lib.hid (fun W (hb : Below wr.heap.size wr W) => HEX.out ⟨⟨ea, ec, es0, da, dc, ds0⟩, A, c, ls⟩ W ⟨HTK.out W (below_via (by repeat' (first | (with_reducible exact Below.refl _ _) | (with_reducible (refine Below.setCell ?_ ?_ _)) | (with_reducible (refine Below.alloc ?_ ?_ _)) | (with_reducible (refine Below.drew ?_)) | (with_reducible (refine below_via ?_ HBW.out ?_)) | (with_reducible (refine below_via ?_ HB.out ?_)) | omega | (simp; done) | (simp; omega))) hb (by omega)), by rw [HLEN.out]; omega, HOWN.out.cap_, (HOWN.out.at_ actt_len).below hb, HOK.out⟩)
        dsimp only [ScrT.cells] at HME
        rw [HLEN.out] at HME
        have q2 := fun j => cell_of_row _ _ j _ _ _ HXQ2.out
        have qf := fun j => frozen_of_row _ _ j _ _ HXQ2.out
        clear hkk
        go_wp2_with fail
        refine Calls.mono (HME.out _ (by repeat' (first | (with_reducible exact Below.refl _ _) | (with_reducible (refine Below.setCell ?_ ?_ _)) | (with_reducible (refine Below.alloc ?_ ?_ _)) | (with_reducible (refine Below.drew ?_)) | omega | (simp; done) | (simp; omega)))) ?_
        rintro e w7 ⟨rfl, hb7⟩
        have hs7 := hb7.size
        try simp at hs7
        have HB7 := Lib.hid hb7
        clear hb7
        go_wp2
        go_ret
        exact ⟨rfl, (by repeat' (first | (with_reducible exact Below.refl _ _) | (with_reducible (refine Below.setCell ?_ ?_ _)) | (with_reducible (refine Below.alloc ?_ ?_ _)) | (with_reducible (refine Below.drew ?_)) | (with_reducible (refine below_via ?_ HB7.out ?_)) | (with_reducible (refine below_via ?_ HBW.out ?_)) | (with_reducible (refine below_via ?_ HB.out ?_)) | omega | (simp; done) | (simp; omega)))⟩

end Go.Proofs.Ytbaninglcafhhaa
