/-
  The page's own table and walk of one stage. Conditions: the memory reads as such, what is asked for may be asked for.
-/
import Derived.Test.YtddbndmbcdeggaaWkE
import Derived.Test.YtddbndmbcdeggaaPut2
import Derived.Test.YtddbndmbcdeggaaMemA
namespace Go.Proofs.Ytddbndmbcdeggaa
open Go.RowKit

set_option maxRecDepth 100000 in
set_option maxHeartbeats 4000000 in
theorem rTable_any (A : Option Addr) (c : Nat) (ws : List Int) (stage level : Int) (f : Nat) (page : Int) (w : World) (hA : MeAt w A c ws) (h : tabOk ws.length stage level page = true) (hf : 8 * f + 8 ≤ ws.length) :
    Calls Try.prog 20 #[.agg #[.slice A ws.length c], .int .i64 stage, .int .i64 level, .int .i64 f, .int .i64 page] w (RofPost w (tabDe ws stage level f page)) := by
  obtain ⟨hm, hp, hi, hs, -⟩ := tab_parts h
  have hlen := memOk_len hm
  obtain ⟨k, hk⟩ : ∃ k : Nat, idxOf level page = k := ⟨(idxOf level page).toNat, by have := idxOf_range level page; omega⟩
  have hk8 : k < 8 := by have := idxOf_range level page; omega
  obtain ⟨N, hN⟩ : ∃ N : Nat, f * 8 + k = N := ⟨_, rfl⟩
  have hNl : N < ws.length := by omega
  obtain ⟨b, off, rfl, hbl, hcell⟩ := at_cell hA.at_ (Below.refl _ _) hNl rfl
  have hx : ws[N] = wAt ws (f * 8 + k) := by
    unfold wAt
    rw [show ((f : Int) * 8 + (k : Int)).toNat = N by omega, List.getD_eq_getElem?_getD, List.getElem?_eq_getElem hNl]
    rfl
  rw [hx] at hcell
  have HX := Lib.hid (fun W => rindex_any level page hi W)
  have HO := Lib.hid (fun W => rof_any stage level (wAt ws (f * 8 + k)) (wAt_range hA.u64 _) hp W)
  unfold tabDe
  rw [hk] at HX ⊢
  generalize ofDe stage level _ = d at *
  generalize wAt ws _ = x at *
  have hw1 : IntKind.i64.wrap ((f : Int) * 8) = (f : Int) * 8 := IntWalk.i64_in _ (by omega)
  have hw2 : IntKind.i64.wrap ((f : Int) * 8 + (k : Int)) = (N : Int) := by rw [IntWalk.i64_in _ (by omega)]; omega
  have hNi : (N : Int) < ws.length := by omega
  obtain ⟨dk, df, dr, dw, dx, daf, dng, dso, dno⟩ := d
  unfold RofPost deV at HO
  dsimp only [De.cells] at *
  clear h hm hp hi hs hA hlen hk hx
  go_enter Try.func20, Try.ntmps20
  go_upto_region 1 with fail
  refine name_world ?_
  intro w1 hw1'
  have HX5 := Lib.hid (show w1.heap[w.heap.size]? = some (.cells #[.slice (some ⟨b, off, none⟩) ws.length c] 24 (0, 0)) by rw [hw1']; exact (by repeat (first | (with_reducible assumption) | (exact heap_at _ _ (by simp; done)) | (with_reducible refine heap_old_is _ _ (by (first | omega | (simp; done) | (simp; omega))) ?_) | (with_reducible refine heap_far_is (by (first | omega | (simp; done) | (simp; omega))) ?_))))
  have HX6 := Lib.hid (show w1.heap[w.heap.size + 1]? = some (.cells #[.int .i64 0, .int .i64 0, .bool false, .bool false, .bool false, .bool false, .bool false, .int .i64 0, .int .i64 0] descT (0, 0)) by rw [hw1']; exact (by repeat (first | (with_reducible assumption) | (exact heap_at _ _ (by simp; done)) | (with_reducible refine heap_old_is _ _ (by (first | omega | (simp; done) | (simp; omega))) ?_) | (with_reducible refine heap_far_is (by (first | omega | (simp; done) | (simp; omega))) ?_))))
  have HB1 := Lib.hid (show Below w.heap.size w w1 by rw [hw1']; repeat' (first | (with_reducible exact Below.refl _ _) | (with_reducible (refine Below.setCell ?_ ?_ _)) | (with_reducible (refine Below.alloc ?_ ?_ _)) | (with_reducible (refine Below.drew ?_)) | omega | (simp; done) | (simp; omega)))
  have hs1 : w.heap.size + 2 ≤ w1.heap.size := by rw [hw1']; simp
  clear hw1'
  have hcell1 := (HB1.out.cell (p := ⟨b, off + N, none⟩) hbl).trans hcell
  have hbl1 : b < w1.heap.size := by omega
  have hl5 : w.heap.size < w1.heap.size := by omega
  have x0 := cell_of_row _ _ 0 _ _ _ HX5.out
  have xf := fun j => frozen_of_row _ _ j _ _ HX5.out
  clear hcell
  refine wp_region_class_tail 13 (fun w' => Below (w1.heap.size) (w1) w') (by kernel_rfl) (by kernel_rfl) (by kernel_rfl) (Below.refl _ _).drew ?_
  repeat (first
    | (refine wpLex_pass (by rfl) passes_plain ?_; (conv => arg 9; simp only [put_lit, put_lit_none, List.set]))
    | (refine wpLex_plain (by rfl) ?_
       apply Exists.intro
       refine ⟨?_, ?_⟩
       · intro w' hb
         have hsz := hb.size
         try simp at hsz
         have hcw := fun b o (h : b < w1.heap.size) => hb.cell (p := ⟨b, o, none⟩) h
         have hfw := fun b o (h : b < w1.heap.size) => hb.frozen (p := ⟨b, o, none⟩) h
         go_simp
         first
           | exact ⟨rfl, hb⟩
           | exact rfl
           | ((with_reducible refine Calls.mono (HX.out _) ?_); rintro e w2 ⟨rfl, hb2⟩; exact ⟨_, rfl, rfl, hb.trans (hb2.mono hsz)⟩)
           | ((with_reducible refine Calls.mono (HO.out _) ?_); rintro e w2 ⟨rfl, hb2⟩; exact ⟨_, rfl, rfl, hb.trans (hb2.mono hsz)⟩)
       conv => arg 9; simp only [put_lit, put_lit_none, List.set]))
  refine wpLex_nil ?_
  intro wq hbq
  have hsq := hbq.size
  try simp at hsq
  have hcq := fun b o (h : b < w1.heap.size) => hbq.cell (p := ⟨b, o, none⟩) h
  have hfq := fun b o (h : b < w1.heap.size) => hbq.frozen (p := ⟨b, o, none⟩) h
  have HBq := Lib.hid hbq
  clear hbq
  simp only [List.drop]
  have HQ6 := Lib.hid ((HBq.out.block _ (by omega)).trans HX6.out)
  have e6 := fun j => cell_of_row _ _ j _ _ _ HQ6.out
  have f6 := fun j => frozen_of_row _ _ j _ _ HQ6.out
  clear hcq hfq x0 xf hcell1
  go_wp2
  refine bodyPost_ret (v := .agg #[.int .i64 dk, .int .i64 df, .bool dr, .bool dw, .bool dx, .bool daf, .bool dng, .int .i64 dso, .int .i64 dno]) (by simp [results, Try.results20, go_sem, *]) rfl ⟨rfl, ?_⟩
  repeat' (first | (with_reducible exact Below.refl _ _) | (with_reducible (refine Below.setCell ?_ ?_ _)) | (with_reducible (refine Below.alloc ?_ ?_ _)) | (with_reducible (refine Below.drew ?_)) | (with_reducible (refine below_via ?_ HBq.out ?_)) | (with_reducible (refine below_via ?_ HB1.out ?_)) | omega | (simp; done) | (simp; omega))

theorem emod_le {a b : Int} (ha : 0 ≤ a) (hb : 0 < b) : a % b ≤ a := by
  have h1 := Int.mul_ediv_add_emod a b
  have h2 : 0 ≤ b * (a / b) := Int.mul_nonneg (by omega) (Int.ediv_nonneg ha (by omega))
  omega

def RefWPost (w : World) (res : Ht × Ft × List Int) (e : Ending) (w' : World) : Prop :=
  ∃ R cr, e = .returned (.tuple #[.agg res.1.cells.toArray, .agg res.2.1.cells.toArray, .slice R res.2.2.length cr]) ∧ Own w' w.heap.size intT 1 intCells res.2.2 R cr ∧ Below w.heap.size w w'

set_option maxRecDepth 100000 in
set_option maxHeartbeats 16000000 in
theorem rWalk_any (A : Option Addr) (c : Nat) (ws : List Int) (stage frame page : Int) (w : World) (hA : MeAt w A c ws) (hm : memOk ws.length = true) (hs : stage = 1 ∨ stage = 2) (hp0 : 0 ≤ page) (hp1 : page ≤ 4095) (hf0 : 0 ≤ frame) :
    Calls Try.prog 24 #[.agg #[.slice A ws.length c], .int .i64 stage, .int .i64 frame, .int .i64 page] w (RefWPost w (walkOf ws stage frame page)) := by
  have HA := Lib.hid hA
  have hlen := memOk_len hm
  have HM := Lib.hid hm
  have HPS := Lib.hid hs
  clear hA hm
  obtain ⟨n, hn⟩ : ∃ n, ws.length = n := ⟨_, rfl⟩
  have HN := Lib.hid hn
  have hn1 : n ≤ 512 := by omega
  have hn2 : n % 8 = 0 := by omega
  obtain ⟨res, hres⟩ : ∃ r, walkOf ws stage frame page = r := ⟨_, rfl⟩
  have HRES := Lib.hid hres
  rw [hres]
  have HFR := Lib.hid (fun W => refFrames_any A n c W (by omega))
  rw [hn]
  clear hlen hres
  obtain ⟨j0, hi0, hz0, hz1, hz2⟩ := info_parts int_info
  have HI0 := Lib.hid hi0
  have HZ0 := Lib.hid hz0
  have HZ1 := Lib.hid hz1
  have HZ2 := Lib.hid hz2
  clear hi0 hz0 hz1 hz2 hs
  go_enter Try.func24, Try.ntmps24
  go_wp2_with fail
  go_loopg [2, 11, 13] 4 (fun gg v2 v11 v13 wr => ∃ (k : Nat) (fr lv : Int) (rd : List Int) (R : Option Addr) (cr : Nat), k ≤ 3 ∧ gg = 4 - k ∧ v13 = .int .i64 k ∧ v2 = .int .i64 fr ∧ v11 = .slice R rd.length cr ∧ 0 ≤ fr ∧ walkG ws stage page (3 - k + 1) k fr rd = res ∧ rd.length = k ∧
    Own wr (w.heap.size + 4) intT 1 intCells rd R cr ∧ wr.heap[w.heap.size]? = some (.cells #[.slice A n c] 24 (0, 0)) ∧ wr.heap[w.heap.size + 1]? = some (.cells noHt.cells.toArray hitT (0, 0)) ∧ wr.heap[w.heap.size + 2]? = some (.cells noFt.cells.toArray faultT (0, 0)) ∧
    wr.heap[w.heap.size + 3]? = some (.cells #[.int .i64 0, .int .i64 stage, .int .i64 lv, .bool false, .int .i64 page] faultT (0, 0)) ∧ Below w.heap.size w wr)
  case atStart => exact ⟨0, frame, 0, [], none, 0, by omega, rfl, rfl, rfl, rfl, hf0, HRES.out, rfl, World.ownsRow_nil _ _ _ _, (by repeat (first | (with_reducible assumption) | (exact heap_at _ _ (by simp; done)) | (with_reducible refine heap_old_is _ _ (by (first | omega | (simp; done) | (simp; omega))) ?_) | (with_reducible refine heap_far_is (by (first | omega | (simp; done) | (simp; omega))) ?_))), (by repeat (first | (with_reducible assumption) | (exact heap_at _ _ (by simp; done)) | (with_reducible refine heap_old_is _ _ (by (first | omega | (simp; done) | (simp; omega))) ?_) | (with_reducible refine heap_far_is (by (first | omega | (simp; done) | (simp; omega))) ?_))), (by repeat (first | (with_reducible assumption) | (exact heap_at _ _ (by simp; done)) | (with_reducible refine heap_old_is _ _ (by (first | omega | (simp; done) | (simp; omega))) ?_) | (with_reducible refine heap_far_is (by (first | omega | (simp; done) | (simp; omega))) ?_))), (by repeat (first | (with_reducible assumption) | (exact heap_at _ _ (by simp; done)) | (with_reducible refine heap_old_is _ _ (by (first | omega | (simp; done) | (simp; omega))) ?_) | (with_reducible refine heap_far_is (by (first | omega | (simp; done) | (simp; omega))) ?_))), (by repeat' (first | (with_reducible exact Below.refl _ _) | (with_reducible (refine Below.setCell ?_ ?_ _)) | (with_reducible (refine Below.alloc ?_ ?_ _)) | (with_reducible (refine Below.drew ?_)) | omega | (simp; done) | (simp; omega)))⟩
  case round =>
    obtain ⟨k, fr, lv, rd, R, cr, hk, hgk, rfl, rfl, rfl, hfr, hrs, hrl, hown, hx4, hx8, hx9, hx12, hbw⟩ := hrel
    have HGK := Lib.hid hgk
    have HRS := Lib.hid hrs
    have HRL := Lib.hid hrl
    have HO := Lib.hid hown
    have HR := Lib.hid (fun p (hp : R = some p) => (hown.block_ hp).1)
    have HX4 := Lib.hid hx4
    have HX8 := Lib.hid hx8
    have HX9 := Lib.hid hx9
    have HX12 := Lib.hid hx12
    have HBW := Lib.hid hbw
    have hsw := hbw.size
    have hl12 := heap_lt hx12
    clear hgk hrs hrl hown hx4 hx8 hx9 hx12 hbw
    have hki : (k : Int) < 4 := by omega
    obtain ⟨wo, rfl⟩ : ∃ wo : World, wo = wr := ⟨_, rfl⟩
    have y4 := fun j => cell_of_row _ _ j _ _ _ HX4.out
    have yf4 := fun j => frozen_of_row _ _ j _ _ HX4.out
    have y12 := fun j => cell_of_row _ _ j _ _ _ HX12.out
    have yf12 := fun j => frozen_of_row _ _ j _ _ HX12.out
   
    go_upto_region 7 with fail
    refine name_world ?_
    intro w1 hw1
    have H4 := Lib.hid (show w1.heap[w.heap.size]? = some (.cells #[.slice A n c] 24 (0, 0)) by rw [hw1]; exact (by repeat (first | (with_reducible exact HX4.out) | (with_reducible refine heap_far_is (by (first | (dsimp only; omega) | omega | (simp; done) | (simp; omega))) ?_))))
    have H8 := Lib.hid (show w1.heap[w.heap.size + 1]? = some (.cells noHt.cells.toArray hitT (0, 0)) by rw [hw1]; exact (by repeat (first | (with_reducible exact HX8.out) | (with_reducible refine heap_far_is (by (first | (dsimp only; omega) | omega | (simp; done) | (simp; omega))) ?_))))
    have H9 := Lib.hid (show w1.heap[w.heap.size + 2]? = some (.cells noFt.cells.toArray faultT (0, 0)) by rw [hw1]; exact (by repeat (first | (with_reducible exact HX9.out) | (with_reducible refine heap_far_is (by (first | (dsimp only; omega) | omega | (simp; done) | (simp; omega))) ?_))))
    have H12 := Lib.hid (show w1.heap[w.heap.size + 3]? = some (.cells #[.int .i64 0, .int .i64 stage, .int .i64 k, .bool false, .int .i64 page] faultT (0, 0)) by rw [hw1]; exact heap_set_same HX12.out 2 _)
    have HO1 := Lib.hid (show Own w1 (w.heap.size + 4) intT 1 intCells rd R cr by rw [hw1]; exact (by repeat (first | (with_reducible exact HO.out) | (with_reducible refine Own.set_far ?_ (by (first | (dsimp only; omega) | omega | (simp; done) | (simp; omega))) _))))
    have HB1 := Lib.hid (show Below w.heap.size w w1 by rw [hw1]; exact (by repeat' (first | (with_reducible exact HBW.out) | (with_reducible refine Below.setCell ?_ ?_ _) | (first | (dsimp only; omega) | omega | (simp; done) | (simp; omega)))))
    have hs1 : wo.heap.size ≤ w1.heap.size := by rw [hw1]; simp
    clear hw1 y4 yf4 y12 yf12 HX4 HX8 HX9 HX12 HO
    have y4 := fun j => cell_of_row _ _ j _ _ _ H4.out
    have yf4 := fun j => frozen_of_row _ _ j _ _ H4.out
    have hl4 := heap_lt H4.out
    have h1s : w.heap.size + 4 ≤ w1.heap.size := by omega
    go_wp2_with fail
    refine Calls.mono (HFR.out _) ?_
    rintro e w2 ⟨rfl, hb2⟩
    have hs2 := hb2.size
    try simp at hs2
    have HB2 := Lib.hid hb2
    clear hb2
    clear y4 yf4
    have G4 := Lib.hid ((HB2.out.block _ (by omega)).trans H4.out)
    have G8 := Lib.hid ((HB2.out.block _ (by omega)).trans H8.out)
    have G9 := Lib.hid ((HB2.out.block _ (by omega)).trans H9.out)
    have G12 := Lib.hid ((HB2.out.block _ (by omega)).trans H12.out)
    have HO2 := Lib.hid (HO1.out.below HB2.out (Nat.le_refl _))
    have HBW2 := Lib.hid (show Below w.heap.size w w2 from (by repeat' (first | (with_reducible exact Below.refl _ _) | (with_reducible (refine Below.setCell ?_ ?_ _)) | (with_reducible (refine Below.alloc ?_ ?_ _)) | (with_reducible (refine Below.drew ?_)) | (with_reducible (refine below_via ?_ HB2.out ?_)) | (with_reducible (refine below_via ?_ HB1.out ?_)) | omega | (simp; done) | (simp; omega))))
    have h2s : w.heap.size + 4 ≤ w2.heap.size := by omega
    clear H4 H8 H9 H12 HO1
    by_cases hfar : (n : Int) / 8 ≤ fr
    · have he : res = (noHt, ⟨1, stage, k, false, page⟩, rd) := by
        rw [← HRS.out]
        unfold walkG
        rw [HN.out, if_pos hfar]
      have HE := Lib.hid he
      clear he
      have hq : decide ((n : Int) / 8 ≤ fr) = true := by simpa using hfar
      have y12 := fun j => cell_of_row _ _ j _ _ _ G12.out
      have yf12 := fun j => frozen_of_row _ _ j _ _ G12.out
      have hl12' := heap_lt G12.out
     
      go_upto_region 9 with fail
      refine name_world ?_
      intro w3 hw3
      have F8 := Lib.hid (show w3.heap[w.heap.size + 1]? = some (.cells noHt.cells.toArray hitT (0, 0)) by rw [hw3]; exact (by repeat (first | (with_reducible exact G8.out) | (with_reducible refine heap_far_is (by (first | (dsimp only; omega) | omega | (simp; done) | (simp; omega))) ?_))))
      have F9 := Lib.hid (show w3.heap[w.heap.size + 2]? = some (.cells noFt.cells.toArray faultT (0, 0)) by rw [hw3]; exact (by repeat (first | (with_reducible exact G9.out) | (with_reducible refine heap_far_is (by (first | (dsimp only; omega) | omega | (simp; done) | (simp; omega))) ?_))))
      have F12 := Lib.hid (show w3.heap[w.heap.size + 3]? = some (.cells #[.int .i64 1, .int .i64 stage, .int .i64 k, .bool false, .int .i64 page] faultT (0, 0)) by rw [hw3]; exact heap_set_same G12.out 0 _)
      have HO3 := Lib.hid (show Own w3 (w.heap.size + 4) intT 1 intCells rd R cr by rw [hw3]; exact (by repeat (first | (with_reducible exact HO2.out) | (with_reducible refine Own.set_far ?_ (by (first | (dsimp only; omega) | omega | (simp; done) | (simp; omega))) _))))
      have HB3 := Lib.hid (show Below w.heap.size w w3 by rw [hw3]; exact (by repeat' (first | (with_reducible exact HBW2.out) | (with_reducible refine Below.setCell ?_ ?_ _) | (first | (dsimp only; omega) | omega | (simp; done) | (simp; omega)))))
      have h3s : w2.heap.size ≤ w3.heap.size := by rw [hw3]; simp
      clear hw3 y12 yf12
      have y12 := fun j => cell_of_row _ _ j _ _ _ F12.out
      have yf12 := fun j => frozen_of_row _ _ j _ _ F12.out
      have hl12' := heap_lt F12.out
      simp only [noHt, noFt, Ht.cells, Ft.cells] at F8 F9
     
      refine wp_region_done (fun d w9 => Put2C (w3) 3 (w.heap.size + 1) (hitT) (#[.int .i64 0, .int .i64 0, .bool false, .bool false, .bool false, .bool false, .bool false, .int .i64 0, .int .i64 0]) (#[.int .i64 0, .int .i64 0, .bool false, .bool false, .bool false, .bool false, .bool false, .int .i64 0, .int .i64 0]) 4 (w.heap.size + 2) (faultT) (#[.int .i64 0, .int .i64 0, .int .i64 0, .bool false, .int .i64 0]) (#[.int .i64 1, .int .i64 stage, .int .i64 k, .bool false, .int .i64 page]) d w9) (by kernel_rfl) (by kernel_rfl) (put2_start (F8.out) (F9.out)) ?_
      repeat (first
        | (refine wpLex_pass (by rfl) (passes_put2 (by rfl) (by rfl)) ?_; (conv => arg 9; simp only [put_lit, put_lit_none, List.set]))
        | (refine wpLex_put2 (by rfl) (by rfl) (by rfl) ?_
           apply Exists.intro
           refine ⟨?_, ?_⟩
           · intro w' hsz hkw hz1 hz2
             try (replace hz1 := hz1 rfl; have hzc1 := fun j => cell_of_row _ _ j _ _ _ hz1; have hzf1 := fun j => frozen_of_row _ _ j _ _ hz1)
             try (replace hz2 := hz2 rfl; have hzc2 := fun j => cell_of_row _ _ j _ _ _ hz2; have hzf2 := fun j => frozen_of_row _ _ j _ _ hz2)
             have q0_ := (hkw (w.heap.size + 3) (by omega) (by omega) (by omega)).trans (F12.out); have q0 := fun j => cell_of_row _ _ j _ _ _ q0_; have qf0 := fun j => frozen_of_row _ _ j _ _ q0_; clear q0_
             clear hkw
             try clear hz1
             try clear hz2
             go_simp
             first
               | exact ⟨rfl, Below.refl _ _⟩
               | exact Below.refl _ _
           conv => arg 9; simp only [put_lit, put_lit_none, List.set])
        | (refine wpLex_put2a (by rfl) (by rfl) (by rfl) (by omega) undef ?_ ?_
           · intro w' hz
             have hzc := fun j => cell_of_row _ _ j _ _ _ hz
             have hzf := fun j => frozen_of_row _ _ j _ _ hz
             go_simp
             exact ⟨(by repeat' (first | (with_reducible exact Below.refl _ _) | (with_reducible (refine Below.setCell ?_ ?_ _)) | omega | (simp; done))), (fun x hx => by repeat (rw [heap_set_other (by exact hx)])), (by simp [World.setCell, Array.getElem?_modify, hz])⟩
           conv => arg 9; simp only [put_lit, put_lit_none, List.set])
        | (refine wpLex_put2b (by rfl) (by rfl) (by rfl) (by omega) undef ?_ ?_
           · intro w' hz
             have hzc := fun j => cell_of_row _ _ j _ _ _ hz
             have hzf := fun j => frozen_of_row _ _ j _ _ hz
             go_simp
             exact ⟨(by repeat' (first | (with_reducible exact Below.refl _ _) | (with_reducible (refine Below.setCell ?_ ?_ _)) | omega | (simp; done))), (fun x hx => by repeat (rw [heap_set_other (by exact hx)])), (by simp [World.setCell, Array.getElem?_modify, hz])⟩
           conv => arg 9; simp only [put_lit, put_lit_none, List.set]))
      refine wpLex_nil ?_
      intro wt dt hdt hCt
      obtain ⟨hbt, hkt, hxt, hyt⟩ := put2_done hCt (hdt 3 (by decide)) (hdt 4 (by decide))
      clear hCt hdt
      have hst := hbt.size
      have HBt := Lib.hid hbt
      have HKt := Lib.hid hkt
      have HXt := Lib.hid hxt
      have HYt := Lib.hid hyt
      clear hbt hkt hxt hyt
      have e8 := fun j => cell_of_row _ _ j _ _ _ HXt.out
      have e9 := fun j => cell_of_row _ _ j _ _ _ HYt.out
      have ef8 := fun j => frozen_of_row _ _ j _ _ HXt.out
      have ef9 := fun j => frozen_of_row _ _ j _ _ HYt.out
      go_wp2
      refine bodyPost_ret (v := .tuple #[.agg noHt.cells.toArray, .agg #[.int .i64 1, .int .i64 stage, .int .i64 k, .bool false, .int .i64 page], .slice R rd.length cr]) (by simp [noHt, Ht.cells, results, Try.results24, go_sem, *]) rfl ?_
      rw [HE.out]
      exact ⟨R, cr, rfl, (HO3.out.keep fun x hx1 hx2 _ => HKt.out x hx2 (by omega) (by omega)).mono (by omega), below_via HB3.out HBt.out (by omega)⟩
    · have HFAR := Lib.hid hfar
      have hq : decide ((n : Int) / 8 ≤ fr) = false := by simpa using hfar
      obtain ⟨f, rfl⟩ : ∃ f : Nat, fr = f := ⟨fr.toNat, by omega⟩
      have hf8 : 8 * f + 8 ≤ n := by omega
      obtain ⟨rd2, hrd2⟩ : ∃ x, x = rd ++ [(f : Int)] := ⟨_, rfl⟩
      have HRD := Lib.hid hrd2
      have HRD2 := Lib.hid (show rd2.length = k + 1 by rw [hrd2, List.length_append, HRL.out]; rfl)
      have hrdl : rd.length ≤ 3 := by have := HRL.out; omega
      clear hrd2
     
      go_upto_region 11 with (at_builtin; refine wpList_one rfl (.tmp 33) (.tmp 35) _ rfl (w.heap.size + 4) intT j0 _ 1 8 Try.underlying25 HI0.out HZ0.out HZ1.out HZ2.out rfl (by omega) int_len int_ones rd rd2 (f : Int) HRD.out R cr rfl (HO2.out.alloc _) _ rfl (heap_new _ _) (by simp only [maxLen]; omega) (by omega) (by simp; omega) ?_; intro R5 c5 w5 ho5 hb5 hk5; have HO5 := Lib.hid ho5; have HB5 := Lib.hid hb5; have hs5 := hb5.size; clear ho5 hk5 hb5; (try simp at hs5))
      refine name_world ?_
      intro wq hwq
      have HQO := Lib.hid (show Own wq (w.heap.size + 4) intT 1 intCells rd2 R5 c5 by rw [hwq]; exact HO5.out)
      have Q4 := Lib.hid (show wq.heap[w.heap.size]? = some (.cells #[.slice A n c] 24 (0, 0)) by rw [hwq]; exact (HB5.out.block _ (by omega)).trans ((heap_old _ _ (by omega)).trans G4.out))
      have Q8 := Lib.hid (show wq.heap[w.heap.size + 1]? = some (.cells noHt.cells.toArray hitT (0, 0)) by rw [hwq]; exact (HB5.out.block _ (by omega)).trans ((heap_old _ _ (by omega)).trans G8.out))
      have Q9 := Lib.hid (show wq.heap[w.heap.size + 2]? = some (.cells noFt.cells.toArray faultT (0, 0)) by rw [hwq]; exact (HB5.out.block _ (by omega)).trans ((heap_old _ _ (by omega)).trans G9.out))
      have Q12 := Lib.hid (show wq.heap[w.heap.size + 3]? = some (.cells #[.int .i64 0, .int .i64 stage, .int .i64 k, .bool false, .int .i64 page] faultT (0, 0)) by rw [hwq]; exact (HB5.out.block _ (by omega)).trans ((heap_old _ _ (by omega)).trans G12.out))
      have HQB := Lib.hid (show Below w.heap.size w wq by rw [hwq]; exact below_via (HBW2.out.alloc (by omega) _) HB5.out (by omega))
      have hqs : w.heap.size + 4 ≤ wq.heap.size := by rw [hwq]; omega
      clear hwq HB5 HO5 hs5 G4 G8 G9 G12 HO2
      have HAQ := Lib.hid (HA.out.below HQB.out)
      have htab : tabOk n stage k page = true := by
        unfold tabOk placeOk numOk
        rw [← HN.out, HM.out]
        rcases HPS.out with rfl | rfl <;> · simp; omega
      have HTB := Lib.hid (fun W (hb : Below wq.heap.size wq W) => rTable_any A c ws stage k f page W (HAQ.out.below hb) (by rw [HN.out]; exact htab) (by omega))
      obtain ⟨d, hd⟩ : ∃ d, d = tabDe ws stage k f page := ⟨_, rfl⟩
      have hkind := tabDe_kind ws stage k f page
      rw [← hd] at HTB hkind
      rw [HN.out] at HTB
      have hrs2 : walkG ws stage page (3 - k + 1) k f rd = res := HRS.out
      unfold walkG at hrs2
      rw [HN.out, if_neg (by have := HFAR.out; omega), ← hd, ← HRD.out] at hrs2
      have HRS2 := Lib.hid hrs2
      clear hd hrs2 htab
      obtain ⟨dk, df, dr, dw, dx, daf, dng, dso, dno⟩ := d
      unfold RofPost deV at HTB
      dsimp only [De.cells] at HTB hkind
      obtain ⟨hk012, hk1, hdf0, hdf1⟩ := hkind
      have q4 := fun j => cell_of_row _ _ j _ _ _ Q4.out
      have qf4 := fun j => frozen_of_row _ _ j _ _ Q4.out
      have hql := heap_lt Q4.out
     
      go_wp2_with fail
      refine Calls.mono (HTB.out _ (Below.refl _ _)) ?_
      rintro e w3 ⟨rfl, hb3⟩
      have hs3 := hb3.size
      try simp at hs3
      have HB3 := Lib.hid hb3
      clear hb3
      have hsq3 : w.heap.size + 4 ≤ w3.heap.size := by omega
      by_cases hd1 : dk = 1
      · subst hd1
        have hk3 := hk1 rfl
        have HRN := Lib.hid (show walkG ws stage page (3 - (k + 1) + 1) ((k + 1 : Nat) : Int) df rd2 = res by rw [← HRS2.out, if_neg (show ¬ (1 : Int) = 0 by decide), if_pos rfl, show 3 - (k + 1) + 1 = 3 - k by omega]; rfl)
        clear hk012 hk1 q4 qf4
       
        go_wp2_with fail
        go_roundg (4 - (k + 1))
        case rel => exact ⟨k + 1, df, k, rd2, R5, c5, by omega, rfl, by go_num, rfl, rfl, hdf0, HRN.out, HRD2.out, (by repeat (first | (with_reducible exact Own.mono HQO.out (by (first | omega | (simp; done) | (simp; omega)))) | (with_reducible refine Own.set_far ?_ (by (first | omega | (simp; done) | (simp; omega))) _) | (with_reducible refine Own.alloc ?_ _) | (with_reducible refine Own.drew ?_) | (with_reducible refine Own.below ?_ HB3.out (by (first | omega | (simp; done) | (simp; omega)))))), (by repeat (first | (with_reducible assumption) | (with_reducible exact Q4.out) | (with_reducible refine heap_below_is HB3.out (by (first | omega | (simp; done) | (simp; omega))) ?_) | (exact heap_at _ _ (by simp; done)) | (with_reducible refine heap_old_is _ _ (by (first | omega | (simp; done) | (simp; omega))) ?_) | (with_reducible refine heap_far_is (by (first | omega | (simp; done) | (simp; omega))) ?_))), (by repeat (first | (with_reducible assumption) | (with_reducible exact Q8.out) | (with_reducible refine heap_below_is HB3.out (by (first | omega | (simp; done) | (simp; omega))) ?_) | (exact heap_at _ _ (by simp; done)) | (with_reducible refine heap_old_is _ _ (by (first | omega | (simp; done) | (simp; omega))) ?_) | (with_reducible refine heap_far_is (by (first | omega | (simp; done) | (simp; omega))) ?_))), (by repeat (first | (with_reducible assumption) | (with_reducible exact Q9.out) | (with_reducible refine heap_below_is HB3.out (by (first | omega | (simp; done) | (simp; omega))) ?_) | (exact heap_at _ _ (by simp; done)) | (with_reducible refine heap_old_is _ _ (by (first | omega | (simp; done) | (simp; omega))) ?_) | (with_reducible refine heap_far_is (by (first | omega | (simp; done) | (simp; omega))) ?_))), (by repeat (first | (with_reducible assumption) | (with_reducible exact Q12.out) | (with_reducible refine heap_below_is HB3.out (by (first | omega | (simp; done) | (simp; omega))) ?_) | (exact heap_at _ _ (by simp; done)) | (with_reducible refine heap_old_is _ _ (by (first | omega | (simp; done) | (simp; omega))) ?_) | (with_reducible refine heap_far_is (by (first | omega | (simp; done) | (simp; omega))) ?_))), (by repeat' (first | (with_reducible exact Below.refl _ _) | (with_reducible (refine Below.setCell ?_ ?_ _)) | (with_reducible (refine Below.alloc ?_ ?_ _)) | (with_reducible (refine Below.drew ?_)) | (with_reducible (refine below_via ?_ HB3.out ?_)) | (with_reducible (refine below_via ?_ HQB.out ?_)) | omega | (simp; done) | (simp; omega)))⟩
        case measure => have := HGK.out; omega
      · have qd1 : (dk == 1) = false := by simpa using hd1
        by_cases hd0 : dk = 0
        · subst hd0
          have he : res = (noHt, ⟨2, stage, k, false, page⟩, rd2) := by rw [← HRS2.out, if_pos rfl]
          have HE := Lib.hid he
          clear he hk012 hk1 q4 qf4 hd1 qd1
          have R12 := Lib.hid ((HB3.out.block _ (by omega)).trans Q12.out)
          have y12 := fun j => cell_of_row _ _ j _ _ _ R12.out
          have yf12 := fun j => frozen_of_row _ _ j _ _ R12.out
          have hl12' := heap_lt R12.out
         
          go_upto_region 16 with fail
          refine name_world ?_
          intro w4 hw4
          have F8 := Lib.hid (show w4.heap[w.heap.size + 1]? = some (.cells noHt.cells.toArray hitT (0, 0)) by rw [hw4]; exact (by repeat (first | (with_reducible assumption) | (with_reducible exact Q8.out) | (with_reducible refine heap_below_is HB3.out (by (first | omega | (simp; done) | (simp; omega))) ?_) | (exact heap_at _ _ (by simp; done)) | (with_reducible refine heap_old_is _ _ (by (first | omega | (simp; done) | (simp; omega))) ?_) | (with_reducible refine heap_far_is (by (first | omega | (simp; done) | (simp; omega))) ?_))))
          have F9 := Lib.hid (show w4.heap[w.heap.size + 2]? = some (.cells noFt.cells.toArray faultT (0, 0)) by rw [hw4]; exact (by repeat (first | (with_reducible assumption) | (with_reducible exact Q9.out) | (with_reducible refine heap_below_is HB3.out (by (first | omega | (simp; done) | (simp; omega))) ?_) | (exact heap_at _ _ (by simp; done)) | (with_reducible refine heap_old_is _ _ (by (first | omega | (simp; done) | (simp; omega))) ?_) | (with_reducible refine heap_far_is (by (first | omega | (simp; done) | (simp; omega))) ?_))))
          have F12 := Lib.hid (show w4.heap[w.heap.size + 3]? = some (.cells #[.int .i64 2, .int .i64 stage, .int .i64 k, .bool false, .int .i64 page] faultT (0, 0)) by rw [hw4]; exact (heap_old _ _ (by simp; omega)).trans (heap_set_same R12.out 0 _))
          have HO4 := Lib.hid (show Own w4 (w.heap.size + 4) intT 1 intCells rd2 R5 c5 by rw [hw4]; exact (by repeat (first | (with_reducible exact Own.mono HQO.out (by (first | omega | (simp; done) | (simp; omega)))) | (with_reducible refine Own.set_far ?_ (by (first | omega | (simp; done) | (simp; omega))) _) | (with_reducible refine Own.alloc ?_ _) | (with_reducible refine Own.drew ?_) | (with_reducible refine Own.below ?_ HB3.out (by (first | omega | (simp; done) | (simp; omega)))))))
          have HB4 := Lib.hid (show Below w.heap.size w w4 by rw [hw4]; repeat' (first | (with_reducible exact Below.refl _ _) | (with_reducible (refine Below.setCell ?_ ?_ _)) | (with_reducible (refine Below.alloc ?_ ?_ _)) | (with_reducible (refine Below.drew ?_)) | (with_reducible (refine below_via ?_ HB3.out ?_)) | (with_reducible (refine below_via ?_ HQB.out ?_)) | omega | (simp; done) | (simp; omega)))
          have h4s : w.heap.size + 4 ≤ w4.heap.size := by rw [hw4]; simp; omega
          clear hw4 y12 yf12
          have y12 := fun j => cell_of_row _ _ j _ _ _ F12.out
          have yf12 := fun j => frozen_of_row _ _ j _ _ F12.out
          have hl12' := heap_lt F12.out
          refine wp_region_done (fun d w9 => Put2C (w4) 3 (w.heap.size + 1) (hitT) (#[.int .i64 0, .int .i64 0, .bool false, .bool false, .bool false, .bool false, .bool false, .int .i64 0, .int .i64 0]) (#[.int .i64 0, .int .i64 0, .bool false, .bool false, .bool false, .bool false, .bool false, .int .i64 0, .int .i64 0]) 4 (w.heap.size + 2) (faultT) (#[.int .i64 0, .int .i64 0, .int .i64 0, .bool false, .int .i64 0]) (#[.int .i64 2, .int .i64 stage, .int .i64 k, .bool false, .int .i64 page]) d w9) (by kernel_rfl) (by kernel_rfl) (put2_start (F8.out) (F9.out)) ?_
          repeat (first
            | (refine wpLex_pass (by rfl) (passes_put2 (by rfl) (by rfl)) ?_; (conv => arg 9; simp only [put_lit, put_lit_none, List.set]))
            | (refine wpLex_put2 (by rfl) (by rfl) (by rfl) ?_
               apply Exists.intro
               refine ⟨?_, ?_⟩
               · intro w' hsz hkw hz1 hz2
                 try (replace hz1 := hz1 rfl; have hzc1 := fun j => cell_of_row _ _ j _ _ _ hz1; have hzf1 := fun j => frozen_of_row _ _ j _ _ hz1)
                 try (replace hz2 := hz2 rfl; have hzc2 := fun j => cell_of_row _ _ j _ _ _ hz2; have hzf2 := fun j => frozen_of_row _ _ j _ _ hz2)
                 have q0_ := (hkw (w.heap.size + 3) (by omega) (by omega) (by omega)).trans (F12.out); have q0 := fun j => cell_of_row _ _ j _ _ _ q0_; have qf0 := fun j => frozen_of_row _ _ j _ _ q0_; clear q0_
                 clear hkw
                 try clear hz1
                 try clear hz2
                 go_simp
                 first
                   | exact ⟨rfl, Below.refl _ _⟩
                   | exact Below.refl _ _
               conv => arg 9; simp only [put_lit, put_lit_none, List.set])
            | (refine wpLex_put2a (by rfl) (by rfl) (by rfl) (by omega) undef ?_ ?_
               · intro w' hz
                 have hzc := fun j => cell_of_row _ _ j _ _ _ hz
                 have hzf := fun j => frozen_of_row _ _ j _ _ hz
                 go_simp
                 exact ⟨(by repeat' (first | (with_reducible exact Below.refl _ _) | (with_reducible (refine Below.setCell ?_ ?_ _)) | omega | (simp; done))), (fun x hx => by repeat (rw [heap_set_other (by exact hx)])), (by simp [World.setCell, Array.getElem?_modify, hz])⟩
               conv => arg 9; simp only [put_lit, put_lit_none, List.set])
            | (refine wpLex_put2b (by rfl) (by rfl) (by rfl) (by omega) undef ?_ ?_
               · intro w' hz
                 have hzc := fun j => cell_of_row _ _ j _ _ _ hz
                 have hzf := fun j => frozen_of_row _ _ j _ _ hz
                 go_simp
                 exact ⟨(by repeat' (first | (with_reducible exact Below.refl _ _) | (with_reducible (refine Below.setCell ?_ ?_ _)) | omega | (simp; done))), (fun x hx => by repeat (rw [heap_set_other (by exact hx)])), (by simp [World.setCell, Array.getElem?_modify, hz])⟩
               conv => arg 9; simp only [put_lit, put_lit_none, List.set]))
          refine wpLex_nil ?_
          intro wt dt hdt hCt
          obtain ⟨hbt, hkt, hxt, hyt⟩ := put2_done hCt (hdt 3 (by decide)) (hdt 4 (by decide))
          clear hCt hdt
          have hst := hbt.size
          have HBt := Lib.hid hbt
          have HKt := Lib.hid hkt
          have HXt := Lib.hid hxt
          have HYt := Lib.hid hyt
          clear hbt hkt hxt hyt
          have e8 := fun j => cell_of_row _ _ j _ _ _ HXt.out
          have e9 := fun j => cell_of_row _ _ j _ _ _ HYt.out
          have ef8 := fun j => frozen_of_row _ _ j _ _ HXt.out
          have ef9 := fun j => frozen_of_row _ _ j _ _ HYt.out
          go_wp2
          refine bodyPost_ret (v := .tuple #[.agg noHt.cells.toArray, .agg #[.int .i64 2, .int .i64 stage, .int .i64 k, .bool false, .int .i64 page], .slice R5 rd2.length c5]) (by simp [noHt, Ht.cells, results, Try.results24, go_sem, *]) rfl ?_
          rw [HE.out]
          exact ⟨R5, c5, rfl, (HO4.out.keep fun x hx1 hx2 _ => HKt.out x hx2 (by omega) (by omega)).mono (by omega), below_via HB4.out HBt.out (by omega)⟩
        · have hd2 : dk = 2 := by omega
          subst hd2
          have he : res = (leafH n k page ⟨2, df, dr, dw, dx, daf, dng, dso, dno⟩, leafF n stage k page ⟨2, df, dr, dw, dx, daf, dng, dso, dno⟩, rd2) := by rw [← HRS2.out, if_neg (show ¬ (2 : Int) = 0 by decide), if_neg (show ¬ (2 : Int) = 1 by decide)]
          have HE := Lib.hid he
          clear he hk012 hk1 hd0 hd1 q4 qf4 qd1
          unfold leafH leafF at HE
          dsimp only at HE
          have HCV := Lib.hid (fun W => rcovers_any (k : Int) (by omega) (by omega) W)
          have hcv0 : 0 < coversOf k := covers_pos _
          generalize coversOf (k : Int) = cv at *
          have hcv2 : ¬ cv = 0 := by omega
          have hcv3 : (cv == 0) = false := by simpa using hcv2
          have hmod : page.tmod cv = page % cv := Int.tmod_eq_emod_of_nonneg hp0
          have hm0 : 0 ≤ page % cv := Int.emod_nonneg _ (by omega)
          have hm1 : page % cv ≤ page := emod_le hp0 hcv0
          obtain ⟨pm, hpm⟩ : ∃ x, page % cv = x := ⟨_, rfl⟩
          rw [hpm] at hmod hm0 hm1 HE
          clear hpm
          have hw1 : IntKind.i64.wrap pm = pm := IntWalk.i64_in _ (by omega)
          have hw2 : IntKind.i64.wrap (df + pm) = df + pm := IntWalk.i64_in _ (by omega)
         
          go_upto_region 17 with fail
          refine name_world ?_
          intro w5 hw5
          have K4 := Lib.hid (show w5.heap[w.heap.size]? = some (.cells #[.slice A n c] 24 (0, 0)) by rw [hw5]; exact (by repeat (first | (with_reducible assumption) | (with_reducible exact Q4.out) | (with_reducible refine heap_below_is HB3.out (by (first | omega | (simp; done) | (simp; omega))) ?_) | (exact heap_at _ _ (by simp; done)) | (with_reducible refine heap_old_is _ _ (by (first | omega | (simp; done) | (simp; omega))) ?_) | (with_reducible refine heap_far_is (by (first | omega | (simp; done) | (simp; omega))) ?_))))
          have K8 := Lib.hid (show w5.heap[w.heap.size + 1]? = some (.cells noHt.cells.toArray hitT (0, 0)) by rw [hw5]; exact (by repeat (first | (with_reducible assumption) | (with_reducible exact Q8.out) | (with_reducible refine heap_below_is HB3.out (by (first | omega | (simp; done) | (simp; omega))) ?_) | (exact heap_at _ _ (by simp; done)) | (with_reducible refine heap_old_is _ _ (by (first | omega | (simp; done) | (simp; omega))) ?_) | (with_reducible refine heap_far_is (by (first | omega | (simp; done) | (simp; omega))) ?_))))
          have K9 := Lib.hid (show w5.heap[w.heap.size + 2]? = some (.cells noFt.cells.toArray faultT (0, 0)) by rw [hw5]; exact (by repeat (first | (with_reducible assumption) | (with_reducible exact Q9.out) | (with_reducible refine heap_below_is HB3.out (by (first | omega | (simp; done) | (simp; omega))) ?_) | (exact heap_at _ _ (by simp; done)) | (with_reducible refine heap_old_is _ _ (by (first | omega | (simp; done) | (simp; omega))) ?_) | (with_reducible refine heap_far_is (by (first | omega | (simp; done) | (simp; omega))) ?_))))
          have K12 := Lib.hid (show w5.heap[w.heap.size + 3]? = some (.cells #[.int .i64 0, .int .i64 stage, .int .i64 k, .bool false, .int .i64 page] faultT (0, 0)) by rw [hw5]; exact (by repeat (first | (with_reducible assumption) | (with_reducible exact Q12.out) | (with_reducible refine heap_below_is HB3.out (by (first | omega | (simp; done) | (simp; omega))) ?_) | (exact heap_at _ _ (by simp; done)) | (with_reducible refine heap_old_is _ _ (by (first | omega | (simp; done) | (simp; omega))) ?_) | (with_reducible refine heap_far_is (by (first | omega | (simp; done) | (simp; omega))) ?_))))
          have K14 := Lib.hid (show w5.heap[w3.heap.size]? = some (.cells #[.int .i64 2, .int .i64 df, .bool dr, .bool dw, .bool dx, .bool daf, .bool dng, .int .i64 dso, .int .i64 dno] descT (0, 0)) by rw [hw5]; exact heap_new _ _)
          have HO5 := Lib.hid (show Own w5 (w.heap.size + 4) intT 1 intCells rd2 R5 c5 by rw [hw5]; exact (by repeat (first | (with_reducible exact Own.mono HQO.out (by (first | omega | (simp; done) | (simp; omega)))) | (with_reducible refine Own.set_far ?_ (by (first | omega | (simp; done) | (simp; omega))) _) | (with_reducible refine Own.alloc ?_ _) | (with_reducible refine Own.drew ?_) | (with_reducible refine Own.below ?_ HB3.out (by (first | omega | (simp; done) | (simp; omega)))))))
          have HB5 := Lib.hid (show Below w.heap.size w w5 by rw [hw5]; repeat' (first | (with_reducible exact Below.refl _ _) | (with_reducible (refine Below.setCell ?_ ?_ _)) | (with_reducible (refine Below.alloc ?_ ?_ _)) | (with_reducible (refine Below.drew ?_)) | (with_reducible (refine below_via ?_ HB3.out ?_)) | (with_reducible (refine below_via ?_ HQB.out ?_)) | omega | (simp; done) | (simp; omega)))
          clear hw5
          have k4 := fun j => cell_of_row _ _ j _ _ _ K4.out
          have kf4 := fun j => frozen_of_row _ _ j _ _ K4.out
          have k14 := fun j => cell_of_row _ _ j _ _ _ K14.out
          have kf14 := fun j => frozen_of_row _ _ j _ _ K14.out
          have hl14 := heap_lt K14.out
          have hl4 := heap_lt K4.out
         
          refine wp_region_class (fun w' => Below (w5.heap.size) (w5) w') (by kernel_rfl) (by kernel_rfl) (Below.refl _ _).drew ?_
          repeat (first
            | (refine wpLex_pass (by rfl) passes_plain ?_; (conv => arg 9; simp only [put_lit, put_lit_none, List.set]))
            | (refine wpLex_plain (by rfl) ?_
               apply Exists.intro
               refine ⟨?_, ?_⟩
               · intro w' hb
                 have hsz := hb.size
                 try simp at hsz
                 have hcw := fun b o (h : b < w5.heap.size) => hb.cell (p := ⟨b, o, none⟩) h
                 have hfw := fun b o (h : b < w5.heap.size) => hb.frozen (p := ⟨b, o, none⟩) h
                 go_simp
                 first
                   | exact ⟨rfl, hb⟩
                   | exact rfl
                   | ((with_reducible refine Calls.mono (HCV.out _) ?_); rintro e w2 ⟨rfl, hb2⟩; exact ⟨_, rfl, rfl, hb.trans (hb2.mono hsz)⟩)
               conv => arg 9; simp only [put_lit, put_lit_none, List.set]))
          refine wpLex_nil ?_
          intro wv hbv
          have hsv := hbv.size
          try simp at hsv
          have hcv := fun b o (h : b < w5.heap.size) => hbv.cell (p := ⟨b, o, none⟩) h
          have hfv := fun b o (h : b < w5.heap.size) => hbv.frozen (p := ⟨b, o, none⟩) h
          have HBv := Lib.hid hbv
          clear hbv
          have V4 := Lib.hid ((HBv.out.block _ hl4).trans K4.out)
          have V8 := Lib.hid ((HBv.out.block _ (by omega)).trans K8.out)
          have V9 := Lib.hid ((HBv.out.block _ (by omega)).trans K9.out)
          have V12 := Lib.hid ((HBv.out.block _ (by omega)).trans K12.out)
          have V14 := Lib.hid ((HBv.out.block _ hl14).trans K14.out)
          have HOV := Lib.hid (HO5.out.below HBv.out (Nat.le_refl _))
          have HBV := Lib.hid (show Below w.heap.size w wv from (by repeat' (first | (with_reducible exact Below.refl _ _) | (with_reducible (refine Below.setCell ?_ ?_ _)) | (with_reducible (refine Below.alloc ?_ ?_ _)) | (with_reducible (refine Below.drew ?_)) | (with_reducible (refine below_via ?_ HBv.out ?_)) | (with_reducible (refine below_via ?_ HB5.out ?_)) | omega | (simp; done) | (simp; omega))))
          clear hcv hfv k4 kf4 k14 kf14 K4 K8 K9 K12 K14
          have k4 := fun j => cell_of_row _ _ j _ _ _ V4.out
          have kf4 := fun j => frozen_of_row _ _ j _ _ V4.out
          have hv4 := heap_lt V4.out
          go_wp2_with fail
          refine Calls.mono (HFR.out _) ?_
          rintro e w6 ⟨rfl, hb6⟩
          have hs6 := hb6.size
          try simp at hs6
          have HB6 := Lib.hid hb6
          clear hb6
          clear k4 kf4
          have W8 := Lib.hid ((HB6.out.block _ (by omega)).trans V8.out)
          have W9 := Lib.hid ((HB6.out.block _ (by omega)).trans V9.out)
          have W12 := Lib.hid ((HB6.out.block _ (by omega)).trans V12.out)
          have W14 := Lib.hid ((HB6.out.block _ (by omega)).trans V14.out)
          have HO6 := Lib.hid (HOV.out.below HB6.out (Nat.le_refl _))
          have HBW6 := Lib.hid (show Below w.heap.size w w6 from (by repeat' (first | (with_reducible exact Below.refl _ _) | (with_reducible (refine Below.setCell ?_ ?_ _)) | (with_reducible (refine Below.alloc ?_ ?_ _)) | (with_reducible (refine Below.drew ?_)) | (with_reducible (refine below_via ?_ HB6.out ?_)) | (with_reducible (refine below_via ?_ HBV.out ?_)) | omega | (simp; done) | (simp; omega))))
          by_cases hlt : df + pm < (n : Int) / 8
          · rw [if_pos hlt, if_pos hlt] at HE
            have hq2 : decide ((n : Int) / 8 ≤ df + pm) = false := by simp; omega
            have k14 := fun j => cell_of_row _ _ j _ _ _ W14.out
            have kf14 := fun j => frozen_of_row _ _ j _ _ W14.out
            have e8 := fun j => cell_of_row _ _ j _ _ _ W8.out
            have e9 := fun j => cell_of_row _ _ j _ _ _ W9.out
            have ef8 := fun j => frozen_of_row _ _ j _ _ W8.out
            have ef9 := fun j => frozen_of_row _ _ j _ _ W9.out
            simp only [noHt, noFt, Ht.cells, Ft.cells] at e8 e9
            have hw8 := heap_lt W8.out
            have hw9 := heap_lt W9.out
           
            go_wp2
            refine bodyPost_ret (v := .tuple #[.agg #[.int .i64 (df + pm), .int .i64 0, .bool dr, .bool dw, .bool dx, .bool daf, .bool dng, .int .i64 dso, .int .i64 k], .agg noFt.cells.toArray, .slice R5 rd2.length c5]) (by simp [noFt, Ft.cells, results, Try.results24, go_sem, *]) rfl ?_
            rw [HE.out]
            refine ⟨R5, c5, rfl, Own.mono (base := w.heap.size + 4) (by repeat (first | (with_reducible exact Own.mono HO6.out (by (first | omega | (simp; done) | (simp; omega)))) | (with_reducible refine Own.set_far ?_ (by (first | omega | (simp; done) | (simp; omega))) _) | (with_reducible refine Own.alloc ?_ _) | (with_reducible refine Own.drew ?_))) (by omega), ?_⟩
            repeat' (first | (with_reducible exact Below.refl _ _) | (with_reducible (refine Below.setCell ?_ ?_ _)) | (with_reducible (refine Below.alloc ?_ ?_ _)) | (with_reducible (refine Below.drew ?_)) | (with_reducible (refine below_via ?_ HBW6.out ?_)) | omega | (simp; done) | (simp; omega))
          · rw [if_neg hlt, if_neg hlt] at HE
            have hq2 : decide ((n : Int) / 8 ≤ df + pm) = true := by simp; omega
            have y12 := fun j => cell_of_row _ _ j _ _ _ W12.out
            have yf12 := fun j => frozen_of_row _ _ j _ _ W12.out
            have hl12' := heap_lt W12.out
           
            go_upto_region 20 with fail
            refine name_world ?_
            intro w7 hw7
            have F8 := Lib.hid (show w7.heap[w.heap.size + 1]? = some (.cells noHt.cells.toArray hitT (0, 0)) by rw [hw7]; exact (by repeat (first | (with_reducible assumption) | (with_reducible exact W8.out) | (exact heap_at _ _ (by simp; done)) | (with_reducible refine heap_old_is _ _ (by (first | omega | (simp; done) | (simp; omega))) ?_) | (with_reducible refine heap_far_is (by (first | omega | (simp; done) | (simp; omega))) ?_))))
            have F9 := Lib.hid (show w7.heap[w.heap.size + 2]? = some (.cells noFt.cells.toArray faultT (0, 0)) by rw [hw7]; exact (by repeat (first | (with_reducible assumption) | (with_reducible exact W9.out) | (exact heap_at _ _ (by simp; done)) | (with_reducible refine heap_old_is _ _ (by (first | omega | (simp; done) | (simp; omega))) ?_) | (with_reducible refine heap_far_is (by (first | omega | (simp; done) | (simp; omega))) ?_))))
            have F12 := Lib.hid (show w7.heap[w.heap.size + 3]? = some (.cells #[.int .i64 1, .int .i64 stage, .int .i64 k, .bool false, .int .i64 page] faultT (0, 0)) by rw [hw7]; exact heap_set_same W12.out 0 _)
            have HO7 := Lib.hid (show Own w7 (w.heap.size + 4) intT 1 intCells rd2 R5 c5 by rw [hw7]; exact (by repeat (first | (with_reducible exact Own.mono HO6.out (by (first | omega | (simp; done) | (simp; omega)))) | (with_reducible refine Own.set_far ?_ (by (first | omega | (simp; done) | (simp; omega))) _) | (with_reducible refine Own.alloc ?_ _) | (with_reducible refine Own.drew ?_))))
            have HB7 := Lib.hid (show Below w.heap.size w w7 by rw [hw7]; repeat' (first | (with_reducible exact Below.refl _ _) | (with_reducible (refine Below.setCell ?_ ?_ _)) | (with_reducible (refine Below.alloc ?_ ?_ _)) | (with_reducible (refine Below.drew ?_)) | (with_reducible (refine below_via ?_ HBW6.out ?_)) | omega | (simp; done) | (simp; omega)))
            clear hw7 y12 yf12
            have y12 := fun j => cell_of_row _ _ j _ _ _ F12.out
            have yf12 := fun j => frozen_of_row _ _ j _ _ F12.out
            have hl12' := heap_lt F12.out
            refine wp_region_done (fun d w9 => Put2C (w7) 3 (w.heap.size + 1) (hitT) (#[.int .i64 0, .int .i64 0, .bool false, .bool false, .bool false, .bool false, .bool false, .int .i64 0, .int .i64 0]) (#[.int .i64 0, .int .i64 0, .bool false, .bool false, .bool false, .bool false, .bool false, .int .i64 0, .int .i64 0]) 4 (w.heap.size + 2) (faultT) (#[.int .i64 0, .int .i64 0, .int .i64 0, .bool false, .int .i64 0]) (#[.int .i64 1, .int .i64 stage, .int .i64 k, .bool false, .int .i64 page]) d w9) (by kernel_rfl) (by kernel_rfl) (put2_start (F8.out) (F9.out)) ?_
            repeat (first
              | (refine wpLex_pass (by rfl) (passes_put2 (by rfl) (by rfl)) ?_; (conv => arg 9; simp only [put_lit, put_lit_none, List.set]))
              | (refine wpLex_put2 (by rfl) (by rfl) (by rfl) ?_
                 apply Exists.intro
                 refine ⟨?_, ?_⟩
                 · intro w' hsz hkw hz1 hz2
                   try (replace hz1 := hz1 rfl; have hzc1 := fun j => cell_of_row _ _ j _ _ _ hz1; have hzf1 := fun j => frozen_of_row _ _ j _ _ hz1)
                   try (replace hz2 := hz2 rfl; have hzc2 := fun j => cell_of_row _ _ j _ _ _ hz2; have hzf2 := fun j => frozen_of_row _ _ j _ _ hz2)
                   have q0_ := (hkw (w.heap.size + 3) (by omega) (by omega) (by omega)).trans (F12.out); have q0 := fun j => cell_of_row _ _ j _ _ _ q0_; have qf0 := fun j => frozen_of_row _ _ j _ _ q0_; clear q0_
                   clear hkw
                   try clear hz1
                   try clear hz2
                   go_simp
                   first
                     | exact ⟨rfl, Below.refl _ _⟩
                     | exact Below.refl _ _
                 conv => arg 9; simp only [put_lit, put_lit_none, List.set])
              | (refine wpLex_put2a (by rfl) (by rfl) (by rfl) (by omega) undef ?_ ?_
                 · intro w' hz
                   have hzc := fun j => cell_of_row _ _ j _ _ _ hz
                   have hzf := fun j => frozen_of_row _ _ j _ _ hz
                   go_simp
                   exact ⟨(by repeat' (first | (with_reducible exact Below.refl _ _) | (with_reducible (refine Below.setCell ?_ ?_ _)) | omega | (simp; done))), (fun x hx => by repeat (rw [heap_set_other (by exact hx)])), (by simp [World.setCell, Array.getElem?_modify, hz])⟩
                 conv => arg 9; simp only [put_lit, put_lit_none, List.set])
              | (refine wpLex_put2b (by rfl) (by rfl) (by rfl) (by omega) undef ?_ ?_
                 · intro w' hz
                   have hzc := fun j => cell_of_row _ _ j _ _ _ hz
                   have hzf := fun j => frozen_of_row _ _ j _ _ hz
                   go_simp
                   exact ⟨(by repeat' (first | (with_reducible exact Below.refl _ _) | (with_reducible (refine Below.setCell ?_ ?_ _)) | omega | (simp; done))), (fun x hx => by repeat (rw [heap_set_other (by exact hx)])), (by simp [World.setCell, Array.getElem?_modify, hz])⟩
                 conv => arg 9; simp only [put_lit, put_lit_none, List.set]))
            refine wpLex_nil ?_
            intro wt dt hdt hCt
            obtain ⟨hbt, hkt, hxt, hyt⟩ := put2_done hCt (hdt 3 (by decide)) (hdt 4 (by decide))
            clear hCt hdt
            have hst := hbt.size
            have HBt := Lib.hid hbt
            have HKt := Lib.hid hkt
            have HXt := Lib.hid hxt
            have HYt := Lib.hid hyt
            clear hbt hkt hxt hyt
            have e8 := fun j => cell_of_row _ _ j _ _ _ HXt.out
            have e9 := fun j => cell_of_row _ _ j _ _ _ HYt.out
            have ef8 := fun j => frozen_of_row _ _ j _ _ HXt.out
            have ef9 := fun j => frozen_of_row _ _ j _ _ HYt.out
            go_wp2
            refine bodyPost_ret (v := .tuple #[.agg noHt.cells.toArray, .agg #[.int .i64 1, .int .i64 stage, .int .i64 k, .bool false, .int .i64 page], .slice R5 rd2.length c5]) (by simp [noHt, Ht.cells, results, Try.results24, go_sem, *]) rfl ?_
            rw [HE.out]
            exact ⟨R5, c5, rfl, (HO7.out.keep fun x hx1 hx2 _ => HKt.out x hx2 (by omega) (by omega)).mono (by omega), below_via HB7.out HBt.out (by omega)⟩

end Go.Proofs.Ytddbndmbcdeggaa
