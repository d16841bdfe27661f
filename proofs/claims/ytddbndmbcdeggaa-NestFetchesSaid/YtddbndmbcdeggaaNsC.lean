/-
  Where an intermediate page is: the page's own answer. Conditions: the memory reads as such; it may be asked.
-/
import Derived.Test.YtddbndmbcdeggaaNsB
namespace Go.Proofs.Ytddbndmbcdeggaa
open Go.RowKit

theorem midOk_parts {n : Nat} {two : Rt} {mid acc : Int} (h : midOk n two mid acc = true) : accOk acc = true ∧ memOk n = true ∧ numOk two.frame 4095 = true ∧ numOk mid 4095 = true := by
  unfold midOk askedB at h
  simpa [Bool.and_eq_true] using h

set_option maxRecDepth 100000 in
set_option maxHeartbeats 16000000 in
theorem rMid_any (A : Option Addr) (c : Nat) (ws : List Int) (two : Rt) (mid acc : Int) (w : World) (hA : MeAt w A c ws) (hok : midOk ws.length two mid acc = true) :
    Calls Try.prog 29 #[.agg #[.slice A ws.length c], .agg two.cells.toArray, .int .i64 mid, .int .i64 acc] w
      (WPost w (midOf ws two mid acc).1.cells.toArray (midOf ws two mid acc).2.1.cells.toArray [] (midOf ws two mid acc).2.2) := by
  have HA := Lib.hid hA
  have hlen := hA.len
  obtain ⟨ha, hm, htf, hmi⟩ := midOk_parts hok
  have HFR := Lib.hid (fun W => refFrames_any A ws.length c W (by omega))
  have hwk : walkOk ws.length 2 two.frame mid = true := by
    unfold walkOk
    rw [hm, htf, hmi]
    rfl
  have HWK := Lib.hid (fun W (hb : Below w.heap.size w W) => rWalk_w A c ws 2 two.frame mid W (hA.below hb) hwk)
  rw [show walkRes ws 2 two.frame mid = walkOf ws 2 two.frame mid by unfold walkRes; rw [hwk]; rfl] at HWK
  have HFL := Lib.hid (fun (r dw x af ng : Bool) (so lv : Int) W => refFlag_any r dw x af ng so acc 2 lv mid W)
  obtain ⟨res, hres⟩ : ∃ r, midOf ws two mid acc = r := ⟨_, rfl⟩
  rw [hres]
  unfold midOf at hres
  clear hA hok ha hm htf hmi hwk
  obtain ⟨on, tf, tg⟩ := two
  dsimp only [Rt.cells] at *
  obtain ⟨n, hn⟩ : ∃ n, ws.length = n := ⟨_, rfl⟩
  rw [hn] at HFR HWK hlen hres ⊢
  have HRES := Lib.hid hres
  clear hn hres
  go_enter Try.func29, Try.ntmps29
  go_upto_region 1 with fail
  refine name_world ?_
  intro w2 hw1
  have D4 := Lib.hid (show w2.heap[w.heap.size]? = some (.cells #[.slice A n c] 24 (0, 0)) by rw [hw1]; exact (by repeat (first | (with_reducible assumption) | (exact heap_at _ _ (by simp; done)) | (with_reducible refine heap_old_is _ _ (by (first | omega | (simp; done) | (simp; omega))) ?_) | (with_reducible refine heap_far_is (by (first | omega | (simp; done) | (simp; omega))) ?_))))
  have D5 := Lib.hid (show w2.heap[w.heap.size + 1]? = some (.cells #[.bool on, .int .i64 tf, .int .i64 tg] rootT (0, 0)) by rw [hw1]; exact (by repeat (first | (with_reducible assumption) | (exact heap_at _ _ (by simp; done)) | (with_reducible refine heap_old_is _ _ (by (first | omega | (simp; done) | (simp; omega))) ?_) | (with_reducible refine heap_far_is (by (first | omega | (simp; done) | (simp; omega))) ?_))))
  have D8 := Lib.hid (show w2.heap[w.heap.size + 2]? = some (.cells zHit hitT (0, 0)) by rw [hw1]; exact (by repeat (first | (with_reducible assumption) | (exact heap_at _ _ (by simp; done)) | (with_reducible refine heap_old_is _ _ (by (first | omega | (simp; done) | (simp; omega))) ?_) | (with_reducible refine heap_far_is (by (first | omega | (simp; done) | (simp; omega))) ?_))))
  have D9 := Lib.hid (show w2.heap[w.heap.size + 3]? = some (.cells zFault faultT (0, 0)) by rw [hw1]; exact (by repeat (first | (with_reducible assumption) | (exact heap_at _ _ (by simp; done)) | (with_reducible refine heap_old_is _ _ (by (first | omega | (simp; done) | (simp; omega))) ?_) | (with_reducible refine heap_far_is (by (first | omega | (simp; done) | (simp; omega))) ?_))))
  have HBD := Lib.hid (show Below w.heap.size w w2 by rw [hw1]; repeat' (first | (with_reducible exact Below.refl _ _) | (with_reducible (refine Below.setCell ?_ ?_ _)) | (with_reducible (refine Below.alloc ?_ ?_ _)) | (with_reducible (refine Below.drew ?_)) | omega | (simp; done) | (simp; omega)))
  have hsd : w.heap.size + 4 ≤ w2.heap.size := by rw [hw1]; simp
  clear hw1
  have x4 := fun j => cell_of_row _ _ j _ _ _ D4.out
  have x5 := fun j => cell_of_row _ _ j _ _ _ D5.out
  have xf4 := fun j => frozen_of_row _ _ j _ _ D4.out
  have xf5 := fun j => frozen_of_row _ _ j _ _ D5.out
  have hl4 := heap_lt D4.out
  have hl5 := heap_lt D5.out
  cases on
  ·
    clear HWK HFL
    go_wp2_with fail
    refine Calls.mono (HFR.out _) ?_
    rintro e w3 ⟨rfl, hb3⟩
    have hs3 := hb3.size
    try simp at hs3
    have HB3 := Lib.hid hb3
    clear hb3
    have E8 := Lib.hid ((HB3.out.block _ (by omega)).trans D8.out)
    have E9 := Lib.hid ((HB3.out.block _ (by omega)).trans D9.out)
    have hse : w.heap.size + 4 ≤ w3.heap.size := by omega
    clear x4 x5 xf4 xf5
    have e8 := fun j => cell_of_row _ _ j _ _ _ E8.out
    have e9 := fun j => cell_of_row _ _ j _ _ _ E9.out
    have ef8 := fun j => frozen_of_row _ _ j _ _ E8.out
    have ef9 := fun j => frozen_of_row _ _ j _ _ E9.out
    simp only [zHit, zFault] at e8 e9
    have h8l := heap_lt E8.out
    have h9l := heap_lt E9.out
    have HRES2 := Lib.hid (show offMid n mid = res from HRES.out)
    by_cases hfar : (n : Int) / 8 ≤ mid
    · have HE := Lib.hid (show offMid n mid = (noHt, ⟨1, 2, 0, false, mid⟩, []) by unfold offMid; rw [if_pos hfar])
      obtain rfl : res = _ := HRES2.out.symm.trans HE.out
      have hq : decide ((n : Int) / 8 ≤ mid) = true := by simpa using hfar
     
      go_wp2
      refine bodyPost_ret (v := .tuple #[.agg noHt.cells.toArray, .agg #[.int .i64 1, .int .i64 2, .int .i64 0, .bool false, .int .i64 mid], .slice none 0 0]) (by simp [noHt, Ht.cells, results, Try.results29, go_sem, *]) rfl ⟨none, 0, rfl, World.ownsRow_nil _ _ _ _, ?_⟩
      have HZ := Lib.hid (below_via HBD.out HB3.out (by omega))
      exact (by repeat' (first | (with_reducible exact HZ.out) | (with_reducible refine Below.setCell ?_ ?_ _) | (first | (dsimp only; omega) | omega | (simp; done) | (simp; omega))))
    · have HE := Lib.hid (show offMid n mid = (⟨mid, mid, true, true, true, true, false, 0, 0⟩, noFt, []) by unfold offMid; rw [if_neg hfar])
      obtain rfl : res = _ := HRES2.out.symm.trans HE.out
      have hq : decide ((n : Int) / 8 ≤ mid) = false := by simpa using hfar
     
      go_wp2
      refine bodyPost_ret (v := .tuple #[.agg #[.int .i64 mid, .int .i64 mid, .bool true, .bool true, .bool true, .bool true, .bool false, .int .i64 0, .int .i64 0], .agg noFt.cells.toArray, .slice none 0 0]) (by simp [noFt, Ft.cells, results, Try.results29, go_sem, *]) rfl ⟨none, 0, rfl, World.ownsRow_nil _ _ _ _, ?_⟩
      have HZ := Lib.hid (below_via HBD.out HB3.out (by omega))
      exact (by repeat' (first | (with_reducible exact HZ.out) | (with_reducible refine Below.setCell ?_ ?_ _) | (first | (dsimp only; omega) | omega | (simp; done) | (simp; omega))))
  ·
    have hr2 : onMid (walkOf ws 2 tf mid) mid acc = res := HRES.out
    have HRS := Lib.hid hr2
    clear HRES hr2 HFR
    generalize walkOf ws 2 tf mid = wres at *
    obtain ⟨⟨l0, l1, l2, l3, l4, l5, l6, l7, l8⟩, ⟨m0, m1, m2, m3, m4⟩, rd⟩ := wres
    unfold WPost at HWK
    dsimp only [Ht.cells, Ft.cells] at HWK
    go_wp2_with fail
    refine Calls.mono (HWK.out _ HBD.out) ?_
    rintro e w3 ⟨R, cr, rfl, ho, hb3⟩
    have hs3 := hb3.size
    try simp at hs3
    have HB3 := Lib.hid hb3
    clear hb3
    have Hho := Lib.hid ho
    clear ho
    have E8 := Lib.hid ((HB3.out.block _ (by omega)).trans D8.out)
    have E9 := Lib.hid ((HB3.out.block _ (by omega)).trans D9.out)
    have HB3D := Lib.hid (below_via HBD.out HB3.out HBD.out.size)
    have hse : w.heap.size + 4 ≤ w3.heap.size := by omega
    clear x4 x5 xf4 xf5 HWK
    go_upto_region 6 with fail
    refine name_world ?_
    intro w4 hw4
    have F8 := Lib.hid (show w4.heap[w.heap.size + 2]? = some (.cells zHit hitT (0, 0)) by rw [hw4]; exact (by repeat (first | (with_reducible assumption) | (with_reducible exact E8.out) | (exact heap_at _ _ (by simp; done)) | (with_reducible refine heap_old_is _ _ (by (first | omega | (simp; done) | (simp; omega))) ?_) | (with_reducible refine heap_far_is (by (first | omega | (simp; done) | (simp; omega))) ?_))))
    have F9 := Lib.hid (show w4.heap[w.heap.size + 3]? = some (.cells zFault faultT (0, 0)) by rw [hw4]; exact (by repeat (first | (with_reducible assumption) | (with_reducible exact E9.out) | (exact heap_at _ _ (by simp; done)) | (with_reducible refine heap_old_is _ _ (by (first | omega | (simp; done) | (simp; omega))) ?_) | (with_reducible refine heap_far_is (by (first | omega | (simp; done) | (simp; omega))) ?_))))
    have F11 := Lib.hid (show w4.heap[w3.heap.size]? = some (.cells #[.int .i64 l0, .int .i64 l1, .bool l2, .bool l3, .bool l4, .bool l5, .bool l6, .int .i64 l7, .int .i64 l8] hitT (0, 0)) by rw [hw4]; exact (by repeat (first | (with_reducible assumption) | (exact heap_at _ _ (by simp; done)) | (with_reducible refine heap_old_is _ _ (by (first | omega | (simp; done) | (simp; omega))) ?_) | (with_reducible refine heap_far_is (by (first | omega | (simp; done) | (simp; omega))) ?_))))
    have F12 := Lib.hid (show w4.heap[w3.heap.size + 1]? = some (.cells #[.int .i64 m0, .int .i64 m1, .int .i64 m2, .bool m3, .int .i64 m4] faultT (0, 0)) by rw [hw4]; exact (by repeat (first | (with_reducible assumption) | (exact heap_at _ _ (by simp; done)) | (with_reducible refine heap_old_is _ _ (by (first | omega | (simp; done) | (simp; omega))) ?_) | (with_reducible refine heap_far_is (by (first | omega | (simp; done) | (simp; omega))) ?_))))
    have FO := Lib.hid (show Own w4 w2.heap.size intT 1 intCells rd R cr by rw [hw4]; exact (by repeat (first | (with_reducible exact Own.mono Hho.out (by (first | omega | (simp; done) | (simp; omega)))) | (with_reducible refine Own.set_far ?_ (by (first | omega | (simp; done) | (simp; omega))) _) | (with_reducible refine Own.alloc ?_ _) | (with_reducible refine Own.drew ?_))))
    have HRB := Lib.hid (fun p (hp : R = some p) => (Hho.out.block_ hp).2)
    have FB := Lib.hid (show Below w.heap.size w w4 by rw [hw4]; repeat' (first | (with_reducible exact Below.refl _ _) | (with_reducible (refine Below.setCell ?_ ?_ _)) | (with_reducible (refine Below.alloc ?_ ?_ _)) | (with_reducible (refine Below.drew ?_)) | (with_reducible (refine below_via ?_ HB3D.out ?_)) | omega | (simp; done) | (simp; omega)))
    have h4s : w3.heap.size + 2 ≤ w4.heap.size := by rw [hw4]; simp
    clear hw4 E8 E9 Hho HB3
    have e11 := fun j => cell_of_row _ _ j _ _ _ F11.out
    have e12 := fun j => cell_of_row _ _ j _ _ _ F12.out
    have ef11 := fun j => frozen_of_row _ _ j _ _ F11.out
    have ef12 := fun j => frozen_of_row _ _ j _ _ F12.out
    have h11l := heap_lt F11.out
    have h12l := heap_lt F12.out
    by_cases hm0 : m0 = 0
    · have HFT := Lib.hid (show onFt (⟨l0, l1, l2, l3, l4, l5, l6, l7, l8⟩, ⟨m0, m1, m2, m3, m4⟩, rd) mid acc = flagFt ⟨l0, l1, l2, l3, l4, l5, l6, l7, l8⟩ acc 2 l8 mid by unfold onFt; rw [if_pos hm0])
      have HFL2 := Lib.hid (fun W => HFL.out l2 l3 l4 l5 l6 l7 l8 W)
      have hfc := flagFt_cells ⟨l0, l1, l2, l3, l4, l5, l6, l7, l8⟩ acc 2 l8 mid
      dsimp only at hfc
      rw [hfc] at HFL2
      clear hfc HFL
      have hr3 := HRS.out
      unfold onMid at hr3
      rw [HFT.out] at hr3
      clear HRS HFT
      generalize flagFt _ acc 2 l8 mid = ff at *
      obtain ⟨f0, f1, f2, f3, f4⟩ := ff
      dsimp only [Ft.cells, withMid] at HFL2 hr3
      have HR3 := Lib.hid hr3
      clear hr3
      subst hm0
     
      go_wp2_with fail
      refine Calls.mono (HFL2.out _) ?_
      rintro e w5 ⟨rfl, hb5⟩
      have hs5 := hb5.size
      try simp at hs5
      have HB5 := Lib.hid hb5
      clear hb5
      have G8 := Lib.hid ((HB5.out.block _ (by omega)).trans F8.out)
      have G9 := Lib.hid ((HB5.out.block _ (by omega)).trans F9.out)
      have G11 := Lib.hid ((HB5.out.block _ h11l).trans F11.out)
      have G12 := Lib.hid ((HB5.out.block _ h12l).trans F12.out)
      have GO := Lib.hid (FO.out.below HB5.out (Nat.le_refl _))
      have GB := Lib.hid (below_via FB.out HB5.out FB.out.size)
      clear e11 e12 ef11 ef12
      have e11 := fun j => cell_of_row _ _ j _ _ _ G11.out
      have e12 := fun j => cell_of_row _ _ j _ _ _ G12.out
      have ef11 := fun j => frozen_of_row _ _ j _ _ G11.out
      have ef12 := fun j => frozen_of_row _ _ j _ _ G12.out
      have g11l := heap_lt G11.out
      have g12l := heap_lt G12.out
      go_upto_region 8 with fail
      refine name_world ?_
      intro w6 hw6
      have K8 := Lib.hid (show w6.heap[w.heap.size + 2]? = some (.cells zHit hitT (0, 0)) by rw [hw6]; exact (by repeat (first | (with_reducible exact G8.out) | (with_reducible refine heap_far_is (by (first | (dsimp only; omega) | omega | (simp; done) | (simp; omega))) ?_))))
      have K9 := Lib.hid (show w6.heap[w.heap.size + 3]? = some (.cells zFault faultT (0, 0)) by rw [hw6]; exact (by repeat (first | (with_reducible exact G9.out) | (with_reducible refine heap_far_is (by (first | (dsimp only; omega) | omega | (simp; done) | (simp; omega))) ?_))))
      have K11 := Lib.hid (show w6.heap[w3.heap.size]? = some (.cells #[.int .i64 l0, .int .i64 l1, .bool l2, .bool l3, .bool l4, .bool l5, .bool l6, .int .i64 l7, .int .i64 l8] hitT (0, 0)) by rw [hw6]; exact (by repeat (first | (with_reducible exact G11.out) | (with_reducible refine heap_far_is (by (first | (dsimp only; omega) | omega | (simp; done) | (simp; omega))) ?_))))
      have K12 := Lib.hid (show w6.heap[w3.heap.size + 1]? = some (.cells #[.int .i64 f0, .int .i64 f1, .int .i64 f2, .bool f3, .int .i64 f4] faultT (0, 0)) by rw [hw6]; simp [World.setCell, Array.getElem?_modify, G12.out])
      have hRne : ∀ p : Addr, R = some p → p.block ≠ w3.heap.size + 1 ∧ p.block ≠ w3.heap.size ∧ p.block < w3.heap.size := fun p hp => by have := HRB.out p hp; omega
      have KO := Lib.hid (show Own w6 w2.heap.size intT 1 intCells rd R cr from GO.out.keep2 fun p hp => by
        have h := hRne p hp
        rw [hw6]
        exact (by repeat (first | (with_reducible exact rfl) | (with_reducible refine heap_far_is (by (first | (dsimp only; omega) | omega | (simp; done) | (simp; omega))) ?_))))
      have KB := Lib.hid (show Below w.heap.size w w6 by rw [hw6]; exact (by repeat' (first | (with_reducible exact GB.out) | (with_reducible refine Below.setCell ?_ ?_ _) | (first | (dsimp only; omega) | omega | (simp; done) | (simp; omega)))))
      have h6s : w5.heap.size ≤ w6.heap.size := by rw [hw6]; simp
      clear hw6 e11 e12 ef11 ef12
      have e11 := fun j => cell_of_row _ _ j _ _ _ K11.out
      have e12 := fun j => cell_of_row _ _ j _ _ _ K12.out
      have ef11 := fun j => frozen_of_row _ _ j _ _ K11.out
      have k11l := heap_lt K11.out
      have k12l := heap_lt K12.out
      by_cases hf0 : f0 = 0
      · subst hf0
        obtain rfl : res = _ := HR3.out.symm.trans (by rw [if_pos rfl])
       
        go_upto_region 11 with fail
        refine name_world ?_
        intro w7 hw7
        have M8 := Lib.hid (show w7.heap[w.heap.size + 2]? = some (.cells zHit hitT (0, 0)) by rw [hw7]; exact (by repeat (first | (with_reducible exact K8.out) | (with_reducible refine heap_far_is (by (first | (dsimp only; omega) | omega | (simp; done) | (simp; omega))) ?_))))
        have M9 := Lib.hid (show w7.heap[w.heap.size + 3]? = some (.cells zFault faultT (0, 0)) by rw [hw7]; exact (by repeat (first | (with_reducible exact K9.out) | (with_reducible refine heap_far_is (by (first | (dsimp only; omega) | omega | (simp; done) | (simp; omega))) ?_))))
        have M11 := Lib.hid (show w7.heap[w3.heap.size]? = some (.cells #[.int .i64 l0, .int .i64 mid, .bool l2, .bool l3, .bool l4, .bool l5, .bool l6, .int .i64 l7, .int .i64 l8] hitT (0, 0)) by rw [hw7]; simp [World.setCell, Array.getElem?_modify, K11.out])
        have M12 := Lib.hid (show w7.heap[w3.heap.size + 1]? = some (.cells #[.int .i64 0, .int .i64 f1, .int .i64 f2, .bool f3, .int .i64 f4] faultT (0, 0)) by rw [hw7]; exact (by repeat (first | (with_reducible exact K12.out) | (with_reducible refine heap_far_is (by (first | (dsimp only; omega) | omega | (simp; done) | (simp; omega))) ?_))))
        have MO := Lib.hid (show Own w7 w2.heap.size intT 1 intCells rd R cr from KO.out.keep2 fun p hp => by
          have h := hRne p hp
          rw [hw7]
          exact (by repeat (first | (with_reducible exact rfl) | (with_reducible refine heap_far_is (by (first | (dsimp only; omega) | omega | (simp; done) | (simp; omega))) ?_))))
        have MB := Lib.hid (show Below w.heap.size w w7 by rw [hw7]; exact (by repeat' (first | (with_reducible exact KB.out) | (with_reducible refine Below.setCell ?_ ?_ _) | (first | (dsimp only; omega) | omega | (simp; done) | (simp; omega)))))
        have h7s : w6.heap.size ≤ w7.heap.size := by rw [hw7]; simp
        clear hw7 e11 e12 ef11
        refine wp_region_done (fun d w9 => Put2C (w7) 3 (w.heap.size + 2) (hitT) (#[.int .i64 0, .int .i64 0, .bool false, .bool false, .bool false, .bool false, .bool false, .int .i64 0, .int .i64 0]) (#[.int .i64 l0, .int .i64 mid, .bool l2, .bool l3, .bool l4, .bool l5, .bool l6, .int .i64 l7, .int .i64 l8]) 4 (w.heap.size + 3) (faultT) (#[.int .i64 0, .int .i64 0, .int .i64 0, .bool false, .int .i64 0]) (#[.int .i64 0, .int .i64 f1, .int .i64 f2, .bool f3, .int .i64 f4]) d w9) (by kernel_rfl) (by kernel_rfl) (put2_start (M8.out) (M9.out)) ?_
        repeat (first
          | (refine wpLex_pass (by rfl) (passes_put2 (by rfl) (by rfl)) ?_; (conv => arg 9; simp only [put_lit, put_lit_none, List.set]))
          | (refine wpLex_put2 (by rfl) (by rfl) (by rfl) ?_
             apply Exists.intro
             refine ⟨?_, ?_⟩
             · intro w' hsz hkw hz1 hz2
               try (replace hz1 := hz1 rfl; have hzc1 := fun j => cell_of_row _ _ j _ _ _ hz1; have hzf1 := fun j => frozen_of_row _ _ j _ _ hz1)
               try (replace hz2 := hz2 rfl; have hzc2 := fun j => cell_of_row _ _ j _ _ _ hz2; have hzf2 := fun j => frozen_of_row _ _ j _ _ hz2)
               have q0_ := (hkw (w3.heap.size) (by omega) (by omega) (by omega)).trans (M11.out); have q0 := fun j => cell_of_row _ _ j _ _ _ q0_; have qf0 := fun j => frozen_of_row _ _ j _ _ q0_; clear q0_
               have q1_ := (hkw (w3.heap.size + 1) (by omega) (by omega) (by omega)).trans (M12.out); have q1 := fun j => cell_of_row _ _ j _ _ _ q1_; have qf1 := fun j => frozen_of_row _ _ j _ _ q1_; clear q1_
               clear hkw
               try clear hz1
               try clear hz2
               go_simp
               first
                 | exact ⟨rfl, Below.refl _ _⟩
                 | exact Below.refl _ _
             conv => arg 9; simp only [put_lit, put_lit_none, List.set])
          | (refine wpLex_put2a (by rfl) (by rfl) (by rfl) (by omega) undef ?_ ?_
             · intro w' hz
               have hzc := fun j => cell_of_row _ _ j _ _ _ hz
               have hzf := fun j => frozen_of_row _ _ j _ _ hz
               go_simp
               exact ⟨(by repeat' (first | (with_reducible exact Below.refl _ _) | (with_reducible (refine Below.setCell ?_ ?_ _)) | omega | (simp; done))), (fun x hx => by repeat (rw [heap_set_other (by exact hx)])), (by simp [World.setCell, Array.getElem?_modify, hz])⟩
             conv => arg 9; simp only [put_lit, put_lit_none, List.set])
          | (refine wpLex_put2b (by rfl) (by rfl) (by rfl) (by omega) undef ?_ ?_
             · intro w' hz
               have hzc := fun j => cell_of_row _ _ j _ _ _ hz
               have hzf := fun j => frozen_of_row _ _ j _ _ hz
               go_simp
               exact ⟨(by repeat' (first | (with_reducible exact Below.refl _ _) | (with_reducible (refine Below.setCell ?_ ?_ _)) | omega | (simp; done))), (fun x hx => by repeat (rw [heap_set_other (by exact hx)])), (by simp [World.setCell, Array.getElem?_modify, hz])⟩
             conv => arg 9; simp only [put_lit, put_lit_none, List.set]))
        refine wpLex_nil ?_
        intro wt dt hdt hCt
        obtain ⟨hbt, hkt, hxt, hyt⟩ := put2_done hCt (hdt 3 (by decide)) (hdt 4 (by decide))
        clear hCt hdt
        have hst := hbt.size
        have HBt := Lib.hid hbt
        have HKt := Lib.hid hkt
        have HXt := Lib.hid hxt
        have HYt := Lib.hid hyt
        clear hbt hkt hxt hyt
        have e8 := fun j => cell_of_row _ _ j _ _ _ HXt.out
        have e9 := fun j => cell_of_row _ _ j _ _ _ HYt.out
        go_wp2
        refine bodyPost_ret (v := .tuple #[.agg #[.int .i64 l0, .int .i64 mid, .bool l2, .bool l3, .bool l4, .bool l5, .bool l6, .int .i64 l7, .int .i64 l8], .agg #[.int .i64 0, .int .i64 f1, .int .i64 f2, .bool f3, .int .i64 f4], .slice R rd.length cr]) (by simp [results, Try.results29, go_sem, *]) rfl ⟨R, cr, rfl, ?_, below_via MB.out HBt.out (by omega)⟩
        exact (MO.out.keep fun x hx1 hx2 _ => HKt.out x hx2 (by omega) (by omega)).mono (by omega)
      · have qf : (f0 != 0) = true := by simpa using hf0
        obtain rfl : res = _ := HR3.out.symm.trans (by rw [if_neg hf0])
       
        go_upto_region 9 with fail
        refine wp_region_done (fun d w9 => Put2C (w6) 3 (w.heap.size + 2) (hitT) (#[.int .i64 0, .int .i64 0, .bool false, .bool false, .bool false, .bool false, .bool false, .int .i64 0, .int .i64 0]) (#[.int .i64 0, .int .i64 0, .bool false, .bool false, .bool false, .bool false, .bool false, .int .i64 0, .int .i64 0]) 4 (w.heap.size + 3) (faultT) (#[.int .i64 0, .int .i64 0, .int .i64 0, .bool false, .int .i64 0]) (#[.int .i64 f0, .int .i64 f1, .int .i64 f2, .bool f3, .int .i64 f4]) d w9) (by kernel_rfl) (by kernel_rfl) (put2_start (K8.out) (K9.out)) ?_
        repeat (first
          | (refine wpLex_pass (by rfl) (passes_put2 (by rfl) (by rfl)) ?_; (conv => arg 9; simp only [put_lit, put_lit_none, List.set]))
          | (refine wpLex_put2 (by rfl) (by rfl) (by rfl) ?_
             apply Exists.intro
             refine ⟨?_, ?_⟩
             · intro w' hsz hkw hz1 hz2
               try (replace hz1 := hz1 rfl; have hzc1 := fun j => cell_of_row _ _ j _ _ _ hz1; have hzf1 := fun j => frozen_of_row _ _ j _ _ hz1)
               try (replace hz2 := hz2 rfl; have hzc2 := fun j => cell_of_row _ _ j _ _ _ hz2; have hzf2 := fun j => frozen_of_row _ _ j _ _ hz2)
               have q0_ := (hkw (w3.heap.size + 1) (by omega) (by omega) (by omega)).trans (K12.out); have q0 := fun j => cell_of_row _ _ j _ _ _ q0_; have qf0 := fun j => frozen_of_row _ _ j _ _ q0_; clear q0_
               clear hkw
               try clear hz1
               try clear hz2
               go_simp
               first
                 | exact ⟨rfl, Below.refl _ _⟩
                 | exact Below.refl _ _
             conv => arg 9; simp only [put_lit, put_lit_none, List.set])
          | (refine wpLex_put2a (by rfl) (by rfl) (by rfl) (by omega) undef ?_ ?_
             · intro w' hz
               have hzc := fun j => cell_of_row _ _ j _ _ _ hz
               have hzf := fun j => frozen_of_row _ _ j _ _ hz
               go_simp
               exact ⟨(by repeat' (first | (with_reducible exact Below.refl _ _) | (with_reducible (refine Below.setCell ?_ ?_ _)) | omega | (simp; done))), (fun x hx => by repeat (rw [heap_set_other (by exact hx)])), (by simp [World.setCell, Array.getElem?_modify, hz])⟩
             conv => arg 9; simp only [put_lit, put_lit_none, List.set])
          | (refine wpLex_put2b (by rfl) (by rfl) (by rfl) (by omega) undef ?_ ?_
             · intro w' hz
               have hzc := fun j => cell_of_row _ _ j _ _ _ hz
               have hzf := fun j => frozen_of_row _ _ j _ _ hz
               go_simp
               exact ⟨(by repeat' (first | (with_reducible exact Below.refl _ _) | (with_reducible (refine Below.setCell ?_ ?_ _)) | omega | (simp; done))), (fun x hx => by repeat (rw [heap_set_other (by exact hx)])), (by simp [World.setCell, Array.getElem?_modify, hz])⟩
             conv => arg 9; simp only [put_lit, put_lit_none, List.set]))
        refine wpLex_nil ?_
        intro wt dt hdt hCt
        obtain ⟨hbt, hkt, hxt, hyt⟩ := put2_done hCt (hdt 3 (by decide)) (hdt 4 (by decide))
        clear hCt hdt
        have hst := hbt.size
        have HBt := Lib.hid hbt
        have HKt := Lib.hid hkt
        have HXt := Lib.hid hxt
        have HYt := Lib.hid hyt
        clear hbt hkt hxt hyt
        have e8 := fun j => cell_of_row _ _ j _ _ _ HXt.out
        have e9 := fun j => cell_of_row _ _ j _ _ _ HYt.out
        clear e11 e12
        go_wp2
        refine bodyPost_ret (v := .tuple #[.agg noHt.cells.toArray, .agg #[.int .i64 f0, .int .i64 f1, .int .i64 f2, .bool f3, .int .i64 f4], .slice R rd.length cr]) (by simp [noHt, Ht.cells, results, Try.results29, go_sem, *]) rfl ⟨R, cr, rfl, ?_, below_via KB.out HBt.out (by omega)⟩
        exact (KO.out.keep fun x hx1 hx2 _ => HKt.out x hx2 (by omega) (by omega)).mono (by omega)
    · have HFT := Lib.hid (show onFt (⟨l0, l1, l2, l3, l4, l5, l6, l7, l8⟩, ⟨m0, m1, m2, m3, m4⟩, rd) mid acc = ⟨m0, m1, m2, m3, m4⟩ by unfold onFt; rw [if_neg hm0])
      have qf : (m0 != 0) = true := by simpa using hm0
      have qf2 : (m0 == 0) = false := by simpa using hm0
      have hr3 := HRS.out
      unfold onMid at hr3
      rw [HFT.out] at hr3
      dsimp only at hr3
      rw [if_neg hm0] at hr3
      obtain rfl : res = _ := hr3.symm
     
      go_upto_region 9 with fail
      refine wp_region_done (fun d w9 => Put2C (w4) 3 (w.heap.size + 2) (hitT) (#[.int .i64 0, .int .i64 0, .bool false, .bool false, .bool false, .bool false, .bool false, .int .i64 0, .int .i64 0]) (#[.int .i64 0, .int .i64 0, .bool false, .bool false, .bool false, .bool false, .bool false, .int .i64 0, .int .i64 0]) 4 (w.heap.size + 3) (faultT) (#[.int .i64 0, .int .i64 0, .int .i64 0, .bool false, .int .i64 0]) (#[.int .i64 m0, .int .i64 m1, .int .i64 m2, .bool m3, .int .i64 m4]) d w9) (by kernel_rfl) (by kernel_rfl) (put2_start (F8.out) (F9.out)) ?_
      repeat (first
        | (refine wpLex_pass (by rfl) (passes_put2 (by rfl) (by rfl)) ?_; (conv => arg 9; simp only [put_lit, put_lit_none, List.set]))
        | (refine wpLex_put2 (by rfl) (by rfl) (by rfl) ?_
           apply Exists.intro
           refine ⟨?_, ?_⟩
           · intro w' hsz hkw hz1 hz2
             try (replace hz1 := hz1 rfl; have hzc1 := fun j => cell_of_row _ _ j _ _ _ hz1; have hzf1 := fun j => frozen_of_row _ _ j _ _ hz1)
             try (replace hz2 := hz2 rfl; have hzc2 := fun j => cell_of_row _ _ j _ _ _ hz2; have hzf2 := fun j => frozen_of_row _ _ j _ _ hz2)
             have q0_ := (hkw (w3.heap.size + 1) (by omega) (by omega) (by omega)).trans (F12.out); have q0 := fun j => cell_of_row _ _ j _ _ _ q0_; have qf0 := fun j => frozen_of_row _ _ j _ _ q0_; clear q0_
             clear hkw
             try clear hz1
             try clear hz2
             go_simp
             first
               | exact ⟨rfl, Below.refl _ _⟩
               | exact Below.refl _ _
           conv => arg 9; simp only [put_lit, put_lit_none, List.set])
        | (refine wpLex_put2a (by rfl) (by rfl) (by rfl) (by omega) undef ?_ ?_
           · intro w' hz
             have hzc := fun j => cell_of_row _ _ j _ _ _ hz
             have hzf := fun j => frozen_of_row _ _ j _ _ hz
             go_simp
             exact ⟨(by repeat' (first | (with_reducible exact Below.refl _ _) | (with_reducible (refine Below.setCell ?_ ?_ _)) | omega | (simp; done))), (fun x hx => by repeat (rw [heap_set_other (by exact hx)])), (by simp [World.setCell, Array.getElem?_modify, hz])⟩
           conv => arg 9; simp only [put_lit, put_lit_none, List.set])
        | (refine wpLex_put2b (by rfl) (by rfl) (by rfl) (by omega) undef ?_ ?_
           · intro w' hz
             have hzc := fun j => cell_of_row _ _ j _ _ _ hz
             have hzf := fun j => frozen_of_row _ _ j _ _ hz
             go_simp
             exact ⟨(by repeat' (first | (with_reducible exact Below.refl _ _) | (with_reducible (refine Below.setCell ?_ ?_ _)) | omega | (simp; done))), (fun x hx => by repeat (rw [heap_set_other (by exact hx)])), (by simp [World.setCell, Array.getElem?_modify, hz])⟩
           conv => arg 9; simp only [put_lit, put_lit_none, List.set]))
      refine wpLex_nil ?_
      intro wt dt hdt hCt
      obtain ⟨hbt, hkt, hxt, hyt⟩ := put2_done hCt (hdt 3 (by decide)) (hdt 4 (by decide))
      clear hCt hdt
      have hst := hbt.size
      have HBt := Lib.hid hbt
      have HKt := Lib.hid hkt
      have HXt := Lib.hid hxt
      have HYt := Lib.hid hyt
      clear hbt hkt hxt hyt
      have e8 := fun j => cell_of_row _ _ j _ _ _ HXt.out
      have e9 := fun j => cell_of_row _ _ j _ _ _ HYt.out
      clear e11 e12
      go_wp2
      refine bodyPost_ret (v := .tuple #[.agg noHt.cells.toArray, .agg #[.int .i64 m0, .int .i64 m1, .int .i64 m2, .bool m3, .int .i64 m4], .slice R rd.length cr]) (by simp [noHt, Ht.cells, results, Try.results29, go_sem, *]) rfl ⟨R, cr, rfl, ?_, below_via FB.out HBt.out (by omega)⟩
      exact (FO.out.keep fun x hx1 hx2 _ => HKt.out x hx2 (by omega) (by omega)).mono (by omega)

end Go.Proofs.Ytddbndmbcdeggaa
