/-
  The walk of one stage: the program's. Conditions: the memory reads as such, what is asked for may be asked for.
-/
import Derived.Test.YtddbndmbcdeggaaWkB
import Derived.Test.YtddbndmbcdeggaaWkC
import Derived.Test.YtddbndmbcdeggaaBox
namespace Go.Proofs.Ytddbndmbcdeggaa
open Go.RowKit

/-- The walk from a table of a level on, whatever was read before. -/
def walkG (ws : List Int) (stage page : Int) : Nat → Int → Int → List Int → Ht × Ft × List Int
  | 0, _, _, rd => (noHt, noFt, rd)
  | n + 1, level, fr, rd =>
    if (ws.length : Int) / 8 ≤ fr then (noHt, ⟨1, stage, level, false, page⟩, rd)
    else if (tabDe ws stage level fr page).kind = 0 then (noHt, ⟨2, stage, level, false, page⟩, rd ++ [fr])
    else if (tabDe ws stage level fr page).kind = 1 then walkG ws stage page n (level + 1) (tabDe ws stage level fr page).frame (rd ++ [fr])
    else (leafH ws.length level page (tabDe ws stage level fr page), leafF ws.length stage level page (tabDe ws stage level fr page), rd ++ [fr])
def walkOf (ws : List Int) (stage frame page : Int) : Ht × Ft × List Int := walkG ws stage page 4 0 frame []

theorem tabDe_kind (ws : List Int) (stage level frame page : Int) : ((tabDe ws stage level frame page).kind = 0 ∨ (tabDe ws stage level frame page).kind = 1 ∨ (tabDe ws stage level frame page).kind = 2) ∧ ((tabDe ws stage level frame page).kind = 1 → level < 3) ∧ 0 ≤ (tabDe ws stage level frame page).frame ∧ (tabDe ws stage level frame page).frame ≤ 4095 := ofDe_kind _ _ _

def FromPost (g : Nat) (A : Option Addr) (n c : Nat) (stage page : Int) (w : World) (res : Ht × Ft × List Int) (e : Ending) (w' : World) : Prop :=
  ∃ R cr, e = .returned (.tuple #[.agg res.1.cells.toArray, .agg res.2.1.cells.toArray]) ∧ w'.heap[g]? = some (.cells (wayRow A n c stage page R res.2.2.length cr) wayT (0, 0)) ∧ Own w' (g + 1) intT 1 intCells res.2.2 R cr ∧ Below g w w'

theorem int_flat {l : List Int} {x : Int} : (l ++ [x]).length = l.length + 1 := by simp

set_option maxRecDepth 100000 in
set_option maxHeartbeats 16000000 in
theorem wFrom_any (g : Nat) (A : Option Addr) (c : Nat) (ws : List Int) (stage frame page : Int) (w0 w : World) (hA : MeAt w0 A c ws) (h0g : w0.heap.size ≤ g) (hb0 : Below w0.heap.size w0 w) (hm : memOk ws.length = true) (hs : stage = 1 ∨ stage = 2) (hp0 : 0 ≤ page) (hp1 : page ≤ 4095) (hf0 : 0 ≤ frame)
    (hg : w.heap[g]? = some (.cells (wayRow A ws.length c stage page none 0 0) wayT (0, 0))) :
    Calls Try.prog 43 #[.pointer (some ⟨g, 0, none⟩), .int .i64 frame] w (FromPost g A ws.length c stage page w (walkOf ws stage frame page)) := by
  have HA := Lib.hid hA
  have HB0 := Lib.hid hb0
  have HG := Lib.hid hg
  have hgl := heap_lt hg
  have hsz0 := hb0.size
  have hlen := memOk_len hm
  have HM := Lib.hid hm
  have HPS := Lib.hid hs
  clear hA hb0 hg hm
  obtain ⟨n, hn⟩ : ∃ n, ws.length = n := ⟨_, rfl⟩
  have HN := Lib.hid hn
  have hn1 : n ≤ 512 := by omega
  have hn2 : n % 8 = 0 := by omega
  obtain ⟨res, hres⟩ : ∃ r, walkOf ws stage frame page = r := ⟨_, rfl⟩
  have HRES := Lib.hid hres
  rw [hres]
  rw [hn] at HG ⊢
  clear hlen hres
  obtain ⟨j0, hi0, hz0, hz1, hz2⟩ := info_parts int_info
  have HI0 := Lib.hid hi0
  have HZ0 := Lib.hid hz0
  have HZ1 := Lib.hid hz1
  have HZ2 := Lib.hid hz2
  clear hi0 hz0 hz1 hz2 hs
  go_enter Try.func43, Try.ntmps43
  have HG0 := Lib.hid (show w.heap[g]? = some (.cells (wayRow A n c stage page none ([] : List Int).length 0) wayT (0, 0)) from HG.out)
  go_wp2_with fail
  go_loopg [1, 9] 4 (fun gg v1 v9 wr => ∃ (k : Nat) (fr : Int) (rd : List Int) (R : Option Addr) (cr : Nat), k ≤ 3 ∧ gg = 4 - k ∧ v9 = .int .i64 k ∧ v1 = .int .i64 fr ∧ 0 ≤ fr ∧ walkG ws stage page (3 - k + 1) k fr rd = res ∧ rd.length = k ∧
    wr.heap[g]? = some (.cells (wayRow A n c stage page R rd.length cr) wayT (0, 0)) ∧ Own wr (w.heap.size + 2) intT 1 intCells rd R cr ∧ wr.heap[w.heap.size]? = some (.cells noHt.cells.toArray hitT (0, 0)) ∧ wr.heap[w.heap.size + 1]? = some (.cells noFt.cells.toArray faultT (0, 0)) ∧ Below g w wr)
  case atStart => exact ⟨0, frame, [], none, 0, by omega, rfl, rfl, rfl, hf0, HRES.out, rfl, (by repeat (first | (with_reducible assumption) | (with_reducible exact HG0.out) | (exact heap_at _ _ (by simp; done)) | (with_reducible refine heap_old_is _ _ (by (first | omega | (simp; done) | (simp; omega))) ?_) | (with_reducible refine heap_far_is (by (first | omega | (simp; done) | (simp; omega))) ?_))), World.ownsRow_nil _ _ _ _, (by repeat (first | (with_reducible assumption) | (exact heap_at _ _ (by simp; done)) | (with_reducible refine heap_old_is _ _ (by (first | omega | (simp; done) | (simp; omega))) ?_) | (with_reducible refine heap_far_is (by (first | omega | (simp; done) | (simp; omega))) ?_))), (by repeat (first | (with_reducible assumption) | (exact heap_at _ _ (by simp; done)) | (with_reducible refine heap_old_is _ _ (by (first | omega | (simp; done) | (simp; omega))) ?_) | (with_reducible refine heap_far_is (by (first | omega | (simp; done) | (simp; omega))) ?_))), (by repeat' (first | (with_reducible exact Below.refl _ _) | (with_reducible (refine Below.setCell ?_ ?_ _)) | (with_reducible (refine Below.alloc ?_ ?_ _)) | (with_reducible (refine Below.drew ?_)) | omega | (simp; done) | (simp; omega)))⟩
  case round =>
    obtain ⟨k, fr, rd, R, cr, hk, hgk, rfl, rfl, hfr, hrs, hrl, hx, hown, hx4, hx5, hbw⟩ := hrel
    have HGK := Lib.hid hgk
    have HRS := Lib.hid hrs
    have HRL := Lib.hid hrl
    have HX := Lib.hid hx
    have HO := Lib.hid hown
    have HX4 := Lib.hid hx4
    have HX5 := Lib.hid hx5
    have HR := Lib.hid (fun p (hp : R = some p) => (hown.block_ hp).1)
    have HBW := Lib.hid hbw
    have hsw := hbw.size
    have hxl := heap_lt hx
    have hl5 := heap_lt hx5
    clear hgk hrs hrl hx hown hx4 hx5 hbw
    have hki : (k : Int) < 4 := by omega
    obtain ⟨wo, rfl⟩ : ∃ wo : World, wo = wr := ⟨_, rfl⟩
    have HHA := Lib.hid (fun W (h : Below wo.heap.size wo W) => wHas_any g A n c stage page R rd.length cr fr W (by omega) ((h.block _ hxl).trans HX.out))
    have HFA := Lib.hid (fun W (h : Below wo.heap.size wo W) => wFault_any g A n c stage page R rd.length cr 1 k W ((h.block _ hxl).trans HX.out))
    go_wp2_with fail
    refine Calls.mono (HHA.out _ (by repeat' (first | (with_reducible exact Below.refl _ _) | (with_reducible (refine Below.setCell ?_ ?_ _)) | (with_reducible (refine Below.alloc ?_ ?_ _)) | (with_reducible (refine Below.drew ?_)) | omega | (simp; done) | (simp; omega)))) ?_
    rintro e w1 ⟨rfl, hb1⟩
    have hs1 := hb1.size
    try simp at hs1
    have HB1 := Lib.hid hb1
    clear hb1
    by_cases hfar : (n : Int) / 8 ≤ fr
    · have hq : decide (fr < (n : Int) / 8) = false := by simp; omega
      rw [hq]
      have he : res = (noHt, ⟨1, stage, k, false, page⟩, rd) := by
        rw [← HRS.out]
        unfold walkG
        rw [HN.out, if_pos hfar]
      have HE := Lib.hid he
      clear hq he
      have y4 := Lib.hid ((HB1.out.block _ (by omega)).trans HX4.out)
      have y5 := Lib.hid ((HB1.out.block _ (by omega)).trans HX5.out)
     
      go_wp2_with fail
      refine Calls.mono (HFA.out _ (by repeat' (first | (with_reducible exact Below.refl _ _) | (with_reducible (refine Below.setCell ?_ ?_ _)) | (with_reducible (refine Below.alloc ?_ ?_ _)) | (with_reducible (refine Below.drew ?_)) | (with_reducible (refine below_via ?_ HB1.out ?_)) | omega | (simp; done) | (simp; omega)))) ?_
      rintro e w2 ⟨rfl, hb2⟩
      have hs2 := hb2.size
      try simp at hs2
      have HB2 := Lib.hid hb2
      clear hb2
      have z4 := Lib.hid ((HB2.out.block _ (by omega)).trans y4.out)
      have z5 := Lib.hid ((HB2.out.block _ (by omega)).trans y5.out)
      have e4 := fun j => cell_of_row _ _ j _ _ _ z4.out
      have f4 := fun j => frozen_of_row _ _ j _ _ z4.out
      have e5 := fun j => cell_of_row _ _ j _ _ _ z5.out
      have f5 := fun j => frozen_of_row _ _ j _ _ z5.out
      simp only [noHt, noFt, Ht.cells, Ft.cells] at e4 e5
      have hl24 : w.heap.size < w2.heap.size := by omega
      have hl25 : w.heap.size + 1 < w2.heap.size := by omega
      go_wp2
      refine bodyPost_ret (v := .tuple #[.agg noHt.cells.toArray, .agg #[.int .i64 1, .int .i64 stage, .int .i64 k, .bool false, .int .i64 page]]) (by simp [noHt, Ht.cells, results, Try.results43, go_sem, *]) rfl ?_
      rw [HE.out]
      refine ⟨R, cr, rfl, ?_, ?_, ?_⟩
      ·
        exact (by repeat (first | (with_reducible exact (HB2.out.block _ (by omega)).trans ((HB1.out.block _ hxl).trans HX.out)) | (with_reducible refine heap_far_is (by (first | (dsimp only; omega) | omega | (simp; done) | (simp; omega))) ?_)))
      ·
        have HZ := Lib.hid ((HO.out.below HB1.out (Nat.le_refl _)).below HB2.out (Nat.le_refl _))
       
        refine Own.mono (base := w.heap.size + 2) ?_ (by omega)
       
        exact (by repeat (first | (with_reducible exact HZ.out) | (with_reducible refine Own.set_far ?_ (by (first | (dsimp only; omega) | omega | (simp; done) | (simp; omega))) _)))
      ·
        have HZ := Lib.hid (below_via (below_via HBW.out HB1.out (by omega)) HB2.out (by omega))
       
        exact (by repeat' (first | (with_reducible exact HZ.out) | (with_reducible refine Below.setCell ?_ ?_ _) | (first | (dsimp only; omega) | omega | (simp; done) | (simp; omega))))
    · have HFAR := Lib.hid hfar
      have hq : decide (fr < (n : Int) / 8) = true := by simp; omega
      rw [hq]
      obtain ⟨f, rfl⟩ : ∃ f : Nat, fr = f := ⟨fr.toNat, by omega⟩
      have hf8 : 8 * f + 8 ≤ n := by omega
      have HX1 := Lib.hid ((HB1.out.block _ hxl).trans HX.out)
      have HO1 := Lib.hid (HO.out.below HB1.out (Nat.le_refl _))
      have H14 := Lib.hid ((HB1.out.block _ (by omega)).trans HX4.out)
      have H15 := Lib.hid ((HB1.out.block _ hl5).trans HX5.out)
      have HBW1 := Lib.hid (show Below g w w1 from (by repeat' (first | (with_reducible exact Below.refl _ _) | (with_reducible (refine Below.setCell ?_ ?_ _)) | (with_reducible (refine Below.alloc ?_ ?_ _)) | (with_reducible (refine Below.drew ?_)) | (with_reducible (refine below_via ?_ HB1.out ?_)) | (with_reducible (refine below_via ?_ HBW.out ?_)) | omega | (simp; done) | (simp; omega))))
      have x3 := cell_of_row _ _ 3 _ _ _ HX1.out
      have xf := fun j => frozen_of_row _ _ j _ _ HX1.out
      simp only [wayRow] at x3
      have hx1l := heap_lt HX1.out
      clear hq HHA
      obtain ⟨rd2, hrd2⟩ : ∃ x, x = rd ++ [(f : Int)] := ⟨_, rfl⟩
      have HRD := Lib.hid hrd2
      have HRD2 := Lib.hid (show rd2.length = k + 1 by rw [hrd2, List.length_append, HRL.out]; rfl)
      have hrdl : rd.length ≤ 3 := by have := HRL.out; omega
      clear hrd2
     
      go_upto_region 7 with (at_builtin; refine wpList_one rfl (.tmp 24) (.tmp 26) _ rfl (w.heap.size + 2) intT j0 _ 1 8 Try.underlying25 HI0.out HZ0.out HZ1.out HZ2.out rfl (by omega) int_len int_ones rd rd2 (f : Int) HRD.out R cr rfl (HO1.out.alloc _) _ rfl (heap_new _ _) (by simp only [maxLen]; omega) (by omega) (by simp; omega) ?_; intro R5 c5 w5 ho5 hb5 hk5; have HO5 := Lib.hid ho5; have HK5 := Lib.hid hk5; have HB5 := Lib.hid hb5; have hs5 := hb5.size; clear ho5 hk5 hb5; (try simp at hs5); have hg5 := (HB5.out.block g (by omega)).trans ((heap_old _ _ hx1l).trans HX1.out); have HG5 := Lib.hid hg5; have g5 := fun j => cell_of_row _ _ j _ _ _ hg5; have gf5 := fun j => frozen_of_row _ _ j _ _ hg5; clear hg5; simp only [wayRow] at g5)
      refine name_world ?_
      intro wq hwq
      have HR1 := Lib.hid (fun p (hp : R = some p) => HO1.out.block_ hp)
      have hw1s : wo.heap.size ≤ w1.heap.size := HB1.out.size
      have HQX := Lib.hid (show wq.heap[g]? = some (.cells (wayRow A n c stage page R5 rd2.length c5) wayT (0, 0)) by rw [hwq]; exact heap_set_same HG5.out 3 _)
      have HQO := Lib.hid (show Own wq (w.heap.size + 2) intT 1 intCells rd2 R5 c5 by rw [hwq]; exact HO5.out.set_far (by simp; omega) _)
      have HQ4 := Lib.hid (show wq.heap[w.heap.size]? = some (.cells noHt.cells.toArray hitT (0, 0)) by rw [hwq]; exact (heap_set_other (by simp; omega) _).trans ((HK5.out _ (by simp; omega) (fun p hp => by have := HR.out p hp; omega)).trans ((heap_old _ _ (by omega)).trans H14.out)))
      have HQ5 := Lib.hid (show wq.heap[w.heap.size + 1]? = some (.cells noFt.cells.toArray faultT (0, 0)) by rw [hwq]; exact (heap_set_other (by simp; omega) _).trans ((HK5.out _ (by simp; omega) (fun p hp => by have := HR.out p hp; omega)).trans ((heap_old _ _ (by omega)).trans H15.out)))
      have HQB := Lib.hid (show Below g w wq by rw [hwq]; exact Below.setCell (below_via (HBW1.out.alloc (by omega) _) HB5.out (by omega)) (Nat.le_refl _) _)
      have hqs : w1.heap.size ≤ wq.heap.size := by rw [hwq]; simp; omega
      clear hwq g5 gf5 x3 xf HK5 HG5
      have HAQ := Lib.hid (HA.out.below (HB0.out.trans (HQB.out.mono h0g)))
      have htab : tabOk n stage k page = true := by
        unfold tabOk placeOk numOk
        rw [← HN.out, HM.out]
        rcases HPS.out with rfl | rfl <;> · simp; omega
      have HTB := Lib.hid (fun W (hb : Below wq.heap.size wq W) => Table_yes A c ws stage k f page W (HAQ.out.below hb) (by rw [HN.out]; exact htab) (by omega))
      obtain ⟨d, hd⟩ : ∃ d, d = tabDe ws stage k f page := ⟨_, rfl⟩
      have hkind := tabDe_kind ws stage k f page
      rw [← hd] at HTB hkind
      rw [HN.out] at HTB
      have hrs2 : walkG ws stage page (3 - k + 1) k f rd = res := HRS.out
      unfold walkG at hrs2
      rw [HN.out, if_neg (by have := HFAR.out; omega), ← hd, ← HRD.out] at hrs2
      have HRS2 := Lib.hid hrs2
      clear hd hrs2 htab
      obtain ⟨dk, df, dr, dw, dx, daf, dng, dso, dno⟩ := d
      unfold OfPost deV at HTB
      dsimp only [De.cells] at HTB hkind
      have q0 := cell_of_row _ _ 0 _ _ _ HQX.out
      have q1 := cell_of_row _ _ 1 _ _ _ HQX.out
      have q2 := cell_of_row _ _ 2 _ _ _ HQX.out
      have qf := fun j => frozen_of_row _ _ j _ _ HQX.out
      simp only [wayRow] at q0 q1 q2
      have hql := heap_lt HQX.out
      have hq5l := heap_lt HQ5.out
     
      refine wp_region_lex [7] (BoxC (wq) 7 18 19 (descT) (#[.int .i64 0, .int .i64 0, .bool false, .bool false, .bool false, .bool false, .bool false, .int .i64 0, .int .i64 0]) (#[.int .i64 dk, .int .i64 df, .bool dr, .bool dw, .bool dx, .bool daf, .bool dng, .int .i64 dso, .int .i64 dno])) boxC_looks (by kernel_rfl) (by kernel_rfl) (by kernel_rfl) (boxC_start _) ?_
      repeat (first
        | (refine wpLex_pass (by rfl) (passes_box (by decide) (by rfl) (by rfl)) ?_; (conv => arg 9; simp only [put_lit, put_lit_none, List.set]))
        | (refine wpLex_box (by rfl) (by rfl) (by decide) (by rfl) (by rfl) ?_
           apply Exists.intro
           refine ⟨?_, ?_⟩
           · intro w' hb
             have hsz := hb.size
             try simp at hsz
             have hcw := fun b o (h : b < (wq).heap.size) => hb.cell (p := ⟨b, o, none⟩) h
             have hfw := fun b o (h : b < (wq).heap.size) => hb.frozen (p := ⟨b, o, none⟩) h
             go_simp
             first
               | exact ⟨rfl, Below.refl _ _⟩
               | exact Below.refl _ _
               | ((with_reducible refine Calls.mono (HTB.out _ (by repeat' (first | (with_reducible exact Below.refl _ _) | (with_reducible (refine Below.setCell ?_ ?_ _)) | (with_reducible (refine Below.alloc ?_ ?_ _)) | (with_reducible (refine Below.drew ?_)) | (with_reducible (refine below_via ?_ hb ?_)) | omega | (simp; done) | (simp; omega)))) ?_); rintro e w2 ⟨rfl, hb2⟩; first | exact ⟨_, rfl, rfl, hb2⟩ | exact ⟨rfl, hb2⟩)
           conv => arg 9; simp only [put_lit, put_lit_none, List.set])
        | (refine wpLex_want undef (by rfl) (comes_alloc rfl rfl (by simp) (by kernel_rfl) rfl (fun w => by go_simp; rfl)) ?_; (conv => arg 9; simp only [put_lit, put_lit_none, List.set]))
        | (refine wpLex_want undef (by rfl) (comes_store rfl (by kernel_rfl) ?_) ?_
           · intro g w' hg hz
             have hzc := fun j => cell_of_row _ _ j _ _ _ hz
             have hzf := fun j => frozen_of_row _ _ j _ _ hz
             simp only [put_lit, List.set]
             go_simp
             exact ⟨(by repeat' (first | (with_reducible exact Below.refl _ _) | (with_reducible (refine Below.setCell ?_ ?_ _)) | omega | (simp; done))), (by simp [World.setCell, Array.getElem?_modify, hz])⟩
           conv => arg 9; simp only [put_lit, put_lit_none, List.set]))
      refine wpLex_nil ?_
      intro wt bt dt hdt hCt hot
      obtain ⟨gt, rfl, hgt, hxt, hbt⟩ := boxC_end hCt (hdt 18 (by decide)) (hdt 19 (by decide)) hot
      clear hCt hdt hot
      simp only [put_lit, List.set]
      have hst := hbt.size
      try simp at hst hgt
      have hlt := heap_lt hxt
      have hct := fun b o (h : b < (wq).heap.size) => hbt.cell (p := ⟨b, o, none⟩) h
      have hft := fun b o (h : b < (wq).heap.size) => hbt.frozen (p := ⟨b, o, none⟩) h
      have HBt := Lib.hid hbt
      have HXt := Lib.hid hxt
      clear hbt hxt
      have HTX := Lib.hid ((HBt.out.block _ hql).trans HQX.out)
      have HTO := Lib.hid (HQO.out.below HBt.out (Nat.le_refl _))
      have HT4 := Lib.hid ((HBt.out.block _ (Nat.lt_of_succ_lt hq5l)).trans HQ4.out)
      have HT5 := Lib.hid ((HBt.out.block _ hq5l).trans HQ5.out)
      have HTW := Lib.hid (show Below g w wt from (by repeat' (first | (with_reducible exact Below.refl _ _) | (with_reducible (refine Below.setCell ?_ ?_ _)) | (with_reducible (refine Below.alloc ?_ ?_ _)) | (with_reducible (refine Below.drew ?_)) | (with_reducible (refine below_via ?_ HBt.out ?_)) | (with_reducible (refine below_via ?_ HQB.out ?_)) | omega | (simp; done) | (simp; omega))))
      have dc := fun j => cell_of_row _ _ j _ _ _ HXt.out
      have dfz := fun j => frozen_of_row _ _ j _ _ HXt.out
      have htl := heap_lt HTX.out
      clear hct hft q0 q1 q2 qf HTB
      obtain ⟨hk012, hk1, hdf0, hdf1⟩ := hkind
      by_cases hd0 : dk = 0
      · subst hd0
        have he : res = (noHt, ⟨2, stage, k, false, page⟩, rd2) := by rw [← HRS2.out, if_pos rfl]
        have HE := Lib.hid he
        have HF2 := Lib.hid (fun W (h : Below wt.heap.size wt W) => wFault_any g A n c stage page R5 rd2.length c5 2 k W ((h.block _ htl).trans HTX.out))
        clear he hk012 hk1
       
        go_wp2_with fail
        refine Calls.mono (HF2.out _ (by repeat' (first | (with_reducible exact Below.refl _ _) | (with_reducible (refine Below.setCell ?_ ?_ _)) | (with_reducible (refine Below.alloc ?_ ?_ _)) | (with_reducible (refine Below.drew ?_)) | omega | (simp; done) | (simp; omega)))) ?_
        rintro e w2 ⟨rfl, hb2⟩
        have hs2 := hb2.size
        try simp at hs2
        have HB2 := Lib.hid hb2
        clear hb2
        have z4 := Lib.hid ((HB2.out.block _ (by omega)).trans HT4.out)
        have z5 := Lib.hid ((HB2.out.block _ (by omega)).trans HT5.out)
        have e4 := fun j => cell_of_row _ _ j _ _ _ z4.out
        have f4 := fun j => frozen_of_row _ _ j _ _ z4.out
        have e5 := fun j => cell_of_row _ _ j _ _ _ z5.out
        have f5 := fun j => frozen_of_row _ _ j _ _ z5.out
        simp only [noHt, noFt, Ht.cells, Ft.cells] at e4 e5
        have hl24 : w.heap.size < w2.heap.size := by omega
        have hl25 : w.heap.size + 1 < w2.heap.size := by omega
        go_wp2
        refine bodyPost_ret (v := .tuple #[.agg noHt.cells.toArray, .agg #[.int .i64 2, .int .i64 stage, .int .i64 k, .bool false, .int .i64 page]]) (by simp [noHt, Ht.cells, results, Try.results43, go_sem, *]) rfl ?_
        rw [HE.out]
        refine ⟨R5, c5, rfl, ?_, ?_, ?_⟩
        · have HZ := Lib.hid ((HB2.out.block _ htl).trans HTX.out)
          exact (by repeat (first | (with_reducible exact HZ.out) | (with_reducible refine heap_far_is (by (first | (dsimp only; omega) | omega | (simp; done) | (simp; omega))) ?_)))
        · have HZ := Lib.hid (HTO.out.below HB2.out (Nat.le_refl _))
          refine Own.mono (base := w.heap.size + 2) ?_ (by omega)
          exact (by repeat (first | (with_reducible exact HZ.out) | (with_reducible refine Own.set_far ?_ (by (first | (dsimp only; omega) | omega | (simp; done) | (simp; omega))) _)))
        · have HZ := Lib.hid (below_via HTW.out HB2.out (by omega))
          exact (by repeat' (first | (with_reducible exact HZ.out) | (with_reducible refine Below.setCell ?_ ?_ _) | (first | (dsimp only; omega) | omega | (simp; done) | (simp; omega))))
      · by_cases hd1 : dk = 1
        · subst hd1
          have hk3 := hk1 rfl
          clear hk012 hk1 hd0
          have HRN := Lib.hid (show walkG ws stage page (3 - (k + 1) + 1) ((k + 1 : Nat) : Int) df rd2 = res by rw [← HRS2.out, if_neg (show ¬ (1 : Int) = 0 by decide), if_pos rfl, show 3 - (k + 1) + 1 = 3 - k by omega]; rfl)
         
          go_wp2_with fail
          go_roundg (4 - (k + 1))
          case rel => exact ⟨k + 1, df, rd2, R5, c5, by omega, rfl, by go_num, rfl, hdf0, HRN.out, HRD2.out, HTX.out, HTO.out, HT4.out, HT5.out, HTW.out⟩
          case measure => have := HGK.out; omega
        · have hd2 : dk = 2 := by omega
          subst hd2
          have he : res = (leafH n k page ⟨2, df, dr, dw, dx, daf, dng, dso, dno⟩, leafF n stage k page ⟨2, df, dr, dw, dx, daf, dng, dso, dno⟩, rd2) := by rw [← HRS2.out, if_neg (show ¬ (2 : Int) = 0 by decide), if_neg (show ¬ (2 : Int) = 1 by decide)]
          have HE := Lib.hid he
          have HL2 := Lib.hid (fun W (h : Below wt.heap.size wt W) => wLeaf_any g A n c stage page R5 rd2.length c5 ⟨2, df, dr, dw, dx, daf, dng, dso, dno⟩ k W (by omega) ((h.block _ htl).trans HTX.out) (by omega) (by omega) hp0 hp1 hdf0 hdf1)
          clear he hk012 hk1 hd0 hd1
          unfold PairPost at HL2
          generalize leafH n k page _ = lh at *
          generalize leafF n stage k page _ = lf at *
          obtain ⟨l0, l1, l2, l3, l4, l5, l6, l7, l8⟩ := lh
          obtain ⟨m0, m1, m2, m3, m4⟩ := lf
          dsimp only [De.cells, Ht.cells, Ft.cells] at HL2
         
          go_wp2_with fail
          refine Calls.mono (HL2.out _ (by repeat' (first | (with_reducible exact Below.refl _ _) | (with_reducible (refine Below.setCell ?_ ?_ _)) | (with_reducible (refine Below.alloc ?_ ?_ _)) | (with_reducible (refine Below.drew ?_)) | omega | (simp; done) | (simp; omega)))) ?_
          rintro e w2 ⟨rfl, hb2⟩
          have hs2 := hb2.size
          try simp at hs2
          have HB2 := Lib.hid hb2
          clear hb2
          have z4 := Lib.hid ((HB2.out.block _ (by omega)).trans HT4.out)
          have z5 := Lib.hid ((HB2.out.block _ (by omega)).trans HT5.out)
          have e4 := fun j => cell_of_row _ _ j _ _ _ z4.out
          have f4 := fun j => frozen_of_row _ _ j _ _ z4.out
          have e5 := fun j => cell_of_row _ _ j _ _ _ z5.out
          have f5 := fun j => frozen_of_row _ _ j _ _ z5.out
          simp only [noHt, noFt, Ht.cells, Ft.cells] at e4 e5
          have hl24 : w.heap.size < w2.heap.size := by omega
          have hl25 : w.heap.size + 1 < w2.heap.size := by omega
          go_wp2
          refine bodyPost_ret (v := .tuple #[.agg #[.int .i64 l0, .int .i64 l1, .bool l2, .bool l3, .bool l4, .bool l5, .bool l6, .int .i64 l7, .int .i64 l8], .agg #[.int .i64 m0, .int .i64 m1, .int .i64 m2, .bool m3, .int .i64 m4]]) (by simp [results, Try.results43, go_sem, *]) rfl ?_
          rw [HE.out]
          refine ⟨R5, c5, rfl, ?_, ?_, ?_⟩
          · have HZ := Lib.hid ((HB2.out.block _ htl).trans HTX.out)
            exact (by repeat (first | (with_reducible exact HZ.out) | (with_reducible refine heap_far_is (by (first | (dsimp only; omega) | omega | (simp; done) | (simp; omega))) ?_)))
          · have HZ := Lib.hid (HTO.out.below HB2.out (Nat.le_refl _))
            refine Own.mono (base := w.heap.size + 2) ?_ (by omega)
            exact (by repeat (first | (with_reducible exact HZ.out) | (with_reducible refine Own.set_far ?_ (by (first | (dsimp only; omega) | omega | (simp; done) | (simp; omega))) _)))
          · have HZ := Lib.hid (below_via HTW.out HB2.out (by omega))
            exact (by repeat' (first | (with_reducible exact HZ.out) | (with_reducible refine Below.setCell ?_ ?_ _) | (first | (dsimp only; omega) | omega | (simp; done) | (simp; omega))))

end Go.Proofs.Ytddbndmbcdeggaa
