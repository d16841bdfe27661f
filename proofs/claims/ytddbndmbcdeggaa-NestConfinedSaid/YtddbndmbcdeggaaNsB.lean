/-
  Where an intermediate page is: the program's answer. Conditions: the memory reads as such.
-/
import Derived.Test.YtddbndmbcdeggaaNsA
namespace Go.Proofs.Ytddbndmbcdeggaa
open Go.RowKit

theorem at_ints (W : World) (l : List Int) (b : Nat) (hb : b = W.heap.size) (cs : Array Value) (hcs : cs = (l.map fun x => Value.int .i64 x).toArray) : At (W.alloc (.cells cs intT)) (some ⟨b, 0, none⟩) 1 intCells l := by
  subst hb hcs
  intro _
  refine ⟨_, 0, rfl, by simp, fun i hi j u hu => ?_⟩
  have hj : j = 0 := by
    have := (List.getElem?_eq_some_iff.1 hu).1
    simp [intCells] at this
    omega
  subst hj
  rw [cell_of_row _ _ _ _ _ _ (heap_new W _)]
  simp [intCells] at hu
  subst hu
  simp [hi]

set_option maxRecDepth 100000 in
set_option maxHeartbeats 16000000 in
theorem Mid_any (A : Option Addr) (c : Nat) (ws : List Int) (two : Rt) (mid acc : Int) (w : World) (hA : MeAt w A c ws) :
    Calls Try.prog 27 #[.agg #[.slice A ws.length c], .agg two.cells.toArray, .int .i64 mid, .int .i64 acc] w
      (WPost w (midRes ws two mid acc).1.cells.toArray (midRes ws two mid acc).2.1.cells.toArray [.int .i64 (midEr ws.length two mid acc)] (midRes ws two mid acc).2.2) := by
  have HA := Lib.hid hA
  have hlen := hA.len
  obtain ⟨ok, hok⟩ : ∃ b, midOk ws.length two mid acc = b := ⟨_, rfl⟩
  have HASK := Lib.hid (fun (L : Option Addr) W (hL : At W L 1 intCells [two.frame, mid]) => asked_any A ws.length c acc L 2 [two.frame, mid] W hlen (by simp) hL)
  rw [show askedB ws.length acc [two.frame, mid] = ok from hok] at HASK
  have HOK := Lib.hid (show ok = true → accOk acc = true ∧ memOk ws.length = true ∧ numOk two.frame 4095 = true ∧ numOk mid 4095 = true from fun h => by
    rw [h] at hok
    unfold midOk askedB at hok
    simpa [Bool.and_eq_true] using hok)
  have HFR := Lib.hid (fun (h : memOk ws.length = true) W => memFramesF_any A ws.length c W (by omega) true h)
  have HBO := Lib.hid (fun W => both_any none 0 [] W (by decide) At.nil)
  have HWK := Lib.hid (fun W (hb : Below w.heap.size w W) => Walk_any A c ws 2 two.frame mid W (hA.below hb))
  have HFL := Lib.hid (fun (r dw x af ng : Bool) (so lv : Int) W => flag_any r dw x af ng so acc 2 lv mid W)
  obtain ⟨res, hres⟩ : ∃ r, midRes ws two mid acc = r := ⟨_, rfl⟩
  obtain ⟨er, her⟩ : ∃ r, midEr ws.length two mid acc = r := ⟨_, rfl⟩
  have HR0 := Lib.hid (show ok = false → (noHt, noFt, []) = res ∧ 1 = er from fun h => by
    rw [← hres, ← her]
    unfold midRes midEr
    rw [hok, h]
    exact ⟨rfl, rfl⟩)
  have HR1 := Lib.hid (show ok = true → midOf ws two mid acc = res ∧ 0 = er from fun h => by
    rw [← hres, ← her]
    unfold midRes midEr
    rw [hok, h]
    exact ⟨rfl, rfl⟩)
  rw [hres, her]
  clear hA hok hres her
  obtain ⟨on, tf, tg⟩ := two
  dsimp only [Rt.cells] at *
  obtain ⟨n, hn⟩ : ∃ n, ws.length = n := ⟨_, rfl⟩
  have HN := Lib.hid hn
  rw [hn] at HASK HOK HFR HWK hlen ⊢
  clear hn
  go_enter Try.func27, Try.ntmps27
  go_upto_region 1 with fail
  refine name_world ?_
  intro w1 hw1
  have H4 := Lib.hid (show w1.heap[w.heap.size]? = some (.cells #[.slice A n c] 24 (0, 0)) by rw [hw1]; exact (by repeat (first | (with_reducible assumption) | (exact heap_at _ _ (by simp; done)) | (with_reducible refine heap_old_is _ _ (by (first | omega | (simp; done) | (simp; omega))) ?_) | (with_reducible refine heap_far_is (by (first | omega | (simp; done) | (simp; omega))) ?_))))
  have H5 := Lib.hid (show w1.heap[w.heap.size + 1]? = some (.cells #[.bool on, .int .i64 tf, .int .i64 tg] rootT (0, 0)) by rw [hw1]; exact (by repeat (first | (with_reducible assumption) | (exact heap_at _ _ (by simp; done)) | (with_reducible refine heap_old_is _ _ (by (first | omega | (simp; done) | (simp; omega))) ?_) | (with_reducible refine heap_far_is (by (first | omega | (simp; done) | (simp; omega))) ?_))))
  have H8 := Lib.hid (show w1.heap[w.heap.size + 2]? = some (.cells zHit hitT (0, 0)) by rw [hw1]; exact (by repeat (first | (with_reducible assumption) | (exact heap_at _ _ (by simp; done)) | (with_reducible refine heap_old_is _ _ (by (first | omega | (simp; done) | (simp; omega))) ?_) | (with_reducible refine heap_far_is (by (first | omega | (simp; done) | (simp; omega))) ?_))))
  have H9 := Lib.hid (show w1.heap[w.heap.size + 3]? = some (.cells zFault faultT (0, 0)) by rw [hw1]; exact (by repeat (first | (with_reducible assumption) | (exact heap_at _ _ (by simp; done)) | (with_reducible refine heap_old_is _ _ (by (first | omega | (simp; done) | (simp; omega))) ?_) | (with_reducible refine heap_far_is (by (first | omega | (simp; done) | (simp; omega))) ?_))))
  have HB1 := Lib.hid (show Below w.heap.size w w1 by rw [hw1]; repeat' (first | (with_reducible exact Below.refl _ _) | (with_reducible (refine Below.setCell ?_ ?_ _)) | (with_reducible (refine Below.alloc ?_ ?_ _)) | (with_reducible (refine Below.drew ?_)) | omega | (simp; done) | (simp; omega)))
  have hs1 : w.heap.size + 4 ≤ w1.heap.size := by rw [hw1]; simp
  clear hw1
  have x4 := fun j => cell_of_row _ _ j _ _ _ H4.out
  have x5 := fun j => cell_of_row _ _ j _ _ _ H5.out
  have xf4 := fun j => frozen_of_row _ _ j _ _ H4.out
  have xf5 := fun j => frozen_of_row _ _ j _ _ H5.out
  have hl4 := heap_lt H4.out
  have hl5 := heap_lt H5.out
  go_wp2_with fail
  refine Calls.mono (HASK.out _ _ (by exact at_ints _ _ _ (by simp) _ rfl)) ?_
  rintro e w2 ⟨rfl, hb2⟩
  have hs2 := hb2.size
  try simp at hs2
  have HB2 := Lib.hid hb2
  clear hb2
  have D4 := Lib.hid ((HB2.out.block _ (by simp; omega)).trans ((heap_old _ _ (by omega)).trans H4.out))
  have D5 := Lib.hid ((HB2.out.block _ (by simp; omega)).trans ((heap_old _ _ (by omega)).trans H5.out))
  have D8 := Lib.hid ((HB2.out.block _ (by simp; omega)).trans ((heap_old _ _ (by omega)).trans H8.out))
  have D9 := Lib.hid ((HB2.out.block _ (by simp; omega)).trans ((heap_old _ _ (by omega)).trans H9.out))
  have HBD := Lib.hid (show Below w.heap.size w w2 from (by repeat' (first | (with_reducible exact Below.refl _ _) | (with_reducible (refine Below.setCell ?_ ?_ _)) | (with_reducible (refine Below.alloc ?_ ?_ _)) | (with_reducible (refine Below.drew ?_)) | (with_reducible (refine below_via ?_ HB2.out ?_)) | (with_reducible (refine below_via ?_ HB1.out ?_)) | omega | (simp; done) | (simp; omega))))
  clear x4 x5 xf4 xf5 H4 H5 H8 H9
  have hsd : w.heap.size + 4 ≤ w2.heap.size := by omega
 
  cases ok
  · obtain ⟨rfl, rfl⟩ := HR0.out rfl
    clear HR0 HR1
    go_upto_region 2 with fail
    refine wp_region_done (fun d w9 => Put2C (w2) 2 (w.heap.size + 2) (hitT) (#[.int .i64 0, .int .i64 0, .bool false, .bool false, .bool false, .bool false, .bool false, .int .i64 0, .int .i64 0]) (#[.int .i64 0, .int .i64 0, .bool false, .bool false, .bool false, .bool false, .bool false, .int .i64 0, .int .i64 0]) 3 (w.heap.size + 3) (faultT) (#[.int .i64 0, .int .i64 0, .int .i64 0, .bool false, .int .i64 0]) (#[.int .i64 0, .int .i64 0, .int .i64 0, .bool false, .int .i64 0]) d w9) (by kernel_rfl) (by kernel_rfl) (put2_start (D8.out) (D9.out)) ?_
    repeat (first
      | (refine wpLex_pass (by rfl) (passes_put2 (by rfl) (by rfl)) ?_; (conv => arg 9; simp only [put_lit, put_lit_none, List.set]))
      | (refine wpLex_put2 (by rfl) (by rfl) (by rfl) ?_
         apply Exists.intro
         refine ⟨?_, ?_⟩
         · intro w' hsz hkw hz1 hz2
           try (replace hz1 := hz1 rfl; have hzc1 := fun j => cell_of_row _ _ j _ _ _ hz1; have hzf1 := fun j => frozen_of_row _ _ j _ _ hz1)
           try (replace hz2 := hz2 rfl; have hzc2 := fun j => cell_of_row _ _ j _ _ _ hz2; have hzf2 := fun j => frozen_of_row _ _ j _ _ hz2)
           clear hkw
           try clear hz1
           try clear hz2
           go_simp
           first
             | exact ⟨rfl, Below.refl _ _⟩
             | exact Below.refl _ _
         conv => arg 9; simp only [put_lit, put_lit_none, List.set])
      | (refine wpLex_put2a (by rfl) (by rfl) (by rfl) (by omega) undef ?_ ?_
         · intro w' hz
           have hzc := fun j => cell_of_row _ _ j _ _ _ hz
           have hzf := fun j => frozen_of_row _ _ j _ _ hz
           go_simp
           exact ⟨(by repeat' (first | (with_reducible exact Below.refl _ _) | (with_reducible (refine Below.setCell ?_ ?_ _)) | omega | (simp; done))), (fun x hx => by repeat (rw [heap_set_other (by exact hx)])), (by simp [World.setCell, Array.getElem?_modify, hz])⟩
         conv => arg 9; simp only [put_lit, put_lit_none, List.set])
      | (refine wpLex_put2b (by rfl) (by rfl) (by rfl) (by omega) undef ?_ ?_
         · intro w' hz
           have hzc := fun j => cell_of_row _ _ j _ _ _ hz
           have hzf := fun j => frozen_of_row _ _ j _ _ hz
           go_simp
           exact ⟨(by repeat' (first | (with_reducible exact Below.refl _ _) | (with_reducible (refine Below.setCell ?_ ?_ _)) | omega | (simp; done))), (fun x hx => by repeat (rw [heap_set_other (by exact hx)])), (by simp [World.setCell, Array.getElem?_modify, hz])⟩
         conv => arg 9; simp only [put_lit, put_lit_none, List.set]))
    refine wpLex_nil ?_
    intro wt dt hdt hCt
    obtain ⟨hbt, hkt, hxt, hyt⟩ := put2_done hCt (hdt 2 (by decide)) (hdt 3 (by decide))
    clear hCt hdt
    have hst := hbt.size
    have HBt := Lib.hid hbt
    have HKt := Lib.hid hkt
    have HXt := Lib.hid hxt
    have HYt := Lib.hid hyt
    clear hbt hkt hxt hyt
    have e8 := fun j => cell_of_row _ _ j _ _ _ HXt.out
    have e9 := fun j => cell_of_row _ _ j _ _ _ HYt.out
    go_wp2
    refine bodyPost_ret (v := .tuple #[.agg noHt.cells.toArray, .agg noFt.cells.toArray, .slice none 0 0, .int .i64 1]) (by simp [noHt, noFt, Ht.cells, Ft.cells, results, Try.results27, go_sem, *]) rfl ⟨none, 0, rfl, World.ownsRow_nil _ _ _ _, below_via HBD.out HBt.out (by omega)⟩
  · obtain ⟨hr1, rfl⟩ := HR1.out rfl
    obtain ⟨ha, hm, htf, hmi⟩ := HOK.out rfl
    have HFR2 := Lib.hid (HFR.out hm)
    unfold numOk at hmi
    simp only [Bool.and_eq_true, decide_eq_true_eq] at hmi
    obtain ⟨hmi0, hmi1⟩ := hmi
    have hwk : walkOk n 2 tf mid = true := by
      unfold walkOk
      rw [hm, htf, show numOk mid 4095 = true by unfold numOk; simp; omega]
      rfl
    have HRW := Lib.hid (show walkRes ws 2 tf mid = walkOf ws 2 tf mid by unfold walkRes; rw [HN.out, hwk]; rfl)
    rw [HRW.out, show walkEr n 2 tf mid = 0 by unfold walkEr; rw [hwk]; rfl] at HWK
    simp only [ha, if_true] at HFL
    rw [show formIf true = 0 by rfl] at HFL
    clear ha hm htf hwk HOK HFR HASK
    have x4 := fun j => cell_of_row _ _ j _ _ _ D4.out
    have x5 := fun j => cell_of_row _ _ j _ _ _ D5.out
    have xf4 := fun j => frozen_of_row _ _ j _ _ D4.out
    have xf5 := fun j => frozen_of_row _ _ j _ _ D5.out
    have hl4 := heap_lt D4.out
    have hl5 := heap_lt D5.out
    unfold midOf at hr1
    rw [HN.out] at hr1
    dsimp only at hr1
    have HRES := Lib.hid hr1
    clear hr1 HR0 HR1
    cases on
    ·
      clear HWK HFL HRW
      go_wp2_with fail
      refine Calls.mono (HFR2.out _) ?_
      rintro e w3 ⟨rfl, hb3⟩
      have hs3 := hb3.size
      try simp at hs3
      have HB3 := Lib.hid hb3
      clear hb3
      have E8 := Lib.hid ((HB3.out.block _ (by omega)).trans D8.out)
      have E9 := Lib.hid ((HB3.out.block _ (by omega)).trans D9.out)
      have hse : w.heap.size + 4 ≤ w3.heap.size := by omega
      clear x4 x5 xf4 xf5
      by_cases hfar : (n : Int) / 8 ≤ mid
      · have HE := Lib.hid (show offMid n mid = (noHt, ⟨1, 2, 0, false, mid⟩, []) by unfold offMid; rw [if_pos hfar])
        obtain rfl : res = _ := HRES.out.symm.trans HE.out
        have hq : decide ((n : Int) / 8 ≤ mid) = true := by simpa using hfar
        have e8 := fun j => cell_of_row _ _ j _ _ _ E8.out
        have e9 := fun j => cell_of_row _ _ j _ _ _ E9.out
        have ef8 := fun j => frozen_of_row _ _ j _ _ E8.out
        have ef9 := fun j => frozen_of_row _ _ j _ _ E9.out
        simp only [zHit, zFault] at e8 e9
        have h8l := heap_lt E8.out
        have h9l := heap_lt E9.out
       
        go_wp2
        refine bodyPost_ret (v := .tuple #[.agg noHt.cells.toArray, .agg #[.int .i64 1, .int .i64 2, .int .i64 0, .bool false, .int .i64 mid], .slice none 0 0, .int .i64 0]) (by simp [noHt, Ht.cells, results, Try.results27, go_sem, *]) rfl ⟨none, 0, rfl, World.ownsRow_nil _ _ _ _, ?_⟩
        have HZ := Lib.hid (below_via HBD.out HB3.out (by omega))
        exact (by repeat' (first | (with_reducible exact HZ.out) | (with_reducible refine Below.setCell ?_ ?_ _) | (first | (dsimp only; omega) | omega | (simp; done) | (simp; omega))))
      · have HE := Lib.hid (show offMid n mid = (⟨mid, mid, true, true, true, true, false, 0, 0⟩, noFt, []) by unfold offMid; rw [if_neg hfar])
        obtain rfl : res = _ := HRES.out.symm.trans HE.out
        have hq : decide ((n : Int) / 8 ≤ mid) = false := by simpa using hfar
        rw [show both [] = ⟨true, true, true, true, false, 0⟩ by rfl] at HBO
        dsimp only [Attr.cells, List.length_nil] at HBO
       
        go_upto_region 7 with fail
        refine wp_region_done (fun d w9 => Put2C (w3) 5 (w.heap.size + 2) (hitT) (#[.int .i64 0, .int .i64 0, .bool false, .bool false, .bool false, .bool false, .bool false, .int .i64 0, .int .i64 0]) (#[.int .i64 mid, .int .i64 mid, .bool true, .bool true, .bool true, .bool true, .bool false, .int .i64 0, .int .i64 0]) 6 (w.heap.size + 3) (faultT) (#[.int .i64 0, .int .i64 0, .int .i64 0, .bool false, .int .i64 0]) (#[.int .i64 0, .int .i64 0, .int .i64 0, .bool false, .int .i64 0]) d w9) (by kernel_rfl) (by kernel_rfl) (put2_start (E8.out) (E9.out)) ?_
        repeat (first
          | (refine wpLex_pass (by rfl) (passes_put2 (by rfl) (by rfl)) ?_; (conv => arg 9; simp only [put_lit, put_lit_none, List.set]))
          | (refine wpLex_put2 (by rfl) (by rfl) (by rfl) ?_
             apply Exists.intro
             refine ⟨?_, ?_⟩
             · intro w' hsz hkw hz1 hz2
               try (replace hz1 := hz1 rfl; have hzc1 := fun j => cell_of_row _ _ j _ _ _ hz1; have hzf1 := fun j => frozen_of_row _ _ j _ _ hz1)
               try (replace hz2 := hz2 rfl; have hzc2 := fun j => cell_of_row _ _ j _ _ _ hz2; have hzf2 := fun j => frozen_of_row _ _ j _ _ hz2)
               clear hkw
               try clear hz1
               try clear hz2
               go_simp
               first
                 | exact ⟨rfl, Below.refl _ _⟩
                 | exact Below.refl _ _
                 | ((with_reducible refine (HBO.out _).mono ?_); rintro e w2 ⟨rfl, hb2⟩; exact ⟨_, rfl, rfl, hb2⟩)
             conv => arg 9; simp only [put_lit, put_lit_none, List.set])
          | (refine wpLex_put2a (by rfl) (by rfl) (by rfl) (by omega) undef ?_ ?_
             · intro w' hz
               have hzc := fun j => cell_of_row _ _ j _ _ _ hz
               have hzf := fun j => frozen_of_row _ _ j _ _ hz
               go_simp
               exact ⟨(by repeat' (first | (with_reducible exact Below.refl _ _) | (with_reducible (refine Below.setCell ?_ ?_ _)) | omega | (simp; done))), (fun x hx => by repeat (rw [heap_set_other (by exact hx)])), (by simp [World.setCell, Array.getElem?_modify, hz])⟩
             conv => arg 9; simp only [put_lit, put_lit_none, List.set])
          | (refine wpLex_put2b (by rfl) (by rfl) (by rfl) (by omega) undef ?_ ?_
             · intro w' hz
               have hzc := fun j => cell_of_row _ _ j _ _ _ hz
               have hzf := fun j => frozen_of_row _ _ j _ _ hz
               go_simp
               exact ⟨(by repeat' (first | (with_reducible exact Below.refl _ _) | (with_reducible (refine Below.setCell ?_ ?_ _)) | omega | (simp; done))), (fun x hx => by repeat (rw [heap_set_other (by exact hx)])), (by simp [World.setCell, Array.getElem?_modify, hz])⟩
             conv => arg 9; simp only [put_lit, put_lit_none, List.set]))
        refine wpLex_nil ?_
        intro wt dt hdt hCt
        obtain ⟨hbt, hkt, hxt, hyt⟩ := put2_done hCt (hdt 5 (by decide)) (hdt 6 (by decide))
        clear hCt hdt
        have hst := hbt.size
        have HBt := Lib.hid hbt
        have HKt := Lib.hid hkt
        have HXt := Lib.hid hxt
        have HYt := Lib.hid hyt
        clear hbt hkt hxt hyt
        have e8 := fun j => cell_of_row _ _ j _ _ _ HXt.out
        have e9 := fun j => cell_of_row _ _ j _ _ _ HYt.out
        go_wp2
        refine bodyPost_ret (v := .tuple #[.agg #[.int .i64 mid, .int .i64 mid, .bool true, .bool true, .bool true, .bool true, .bool false, .int .i64 0, .int .i64 0], .agg noFt.cells.toArray, .slice none 0 0, .int .i64 0]) (by simp [noFt, Ft.cells, results, Try.results27, go_sem, *]) rfl ⟨none, 0, rfl, World.ownsRow_nil _ _ _ _, ?_⟩
        exact below_via HBD.out (below_via (HB3.out.mono (by omega)) HBt.out (Nat.le_refl _)) (by omega)
    ·
      have hr2 : onMid (walkOf ws 2 tf mid) mid acc = res := HRES.out
      have HRS := Lib.hid hr2
      clear HFR2 HBO HRES hr2 HRW
      generalize walkOf ws 2 tf mid = wres at *
      obtain ⟨⟨l0, l1, l2, l3, l4, l5, l6, l7, l8⟩, ⟨m0, m1, m2, m3, m4⟩, rd⟩ := wres
      unfold WPost at HWK
      dsimp only [Ht.cells, Ft.cells] at HWK
      go_wp2_with fail
      refine Calls.mono (HWK.out _ HBD.out) ?_
      rintro e w3 ⟨R, cr, rfl, ho, hb3⟩
      have hs3 := hb3.size
      try simp at hs3
      have HB3 := Lib.hid hb3
      clear hb3
      have Hho := Lib.hid ho
      clear ho
      have E8 := Lib.hid ((HB3.out.block _ (by omega)).trans D8.out)
      have E9 := Lib.hid ((HB3.out.block _ (by omega)).trans D9.out)
      have HB3D := Lib.hid (below_via HBD.out HB3.out HBD.out.size)
      have hse : w.heap.size + 4 ≤ w3.heap.size := by omega
      clear x4 x5 xf4 xf5 HWK
      have e8 := fun j => cell_of_row _ _ j _ _ _ E8.out
      have e9 := fun j => cell_of_row _ _ j _ _ _ E9.out
      have ef8 := fun j => frozen_of_row _ _ j _ _ E8.out
      have ef9 := fun j => frozen_of_row _ _ j _ _ E9.out
      simp only [zHit, zFault] at e8 e9
      have h8l := heap_lt E8.out
      have h9l := heap_lt E9.out
      go_upto_region 9 with fail
      refine name_world ?_
      intro w4 hw4
      have F8 := Lib.hid (show w4.heap[w.heap.size + 2]? = some (.cells #[.int .i64 l0, .int .i64 l1, .bool l2, .bool l3, .bool l4, .bool l5, .bool l6, .int .i64 l7, .int .i64 l8] hitT (0, 0)) by rw [hw4]; simp [World.setCell, Array.getElem?_modify, E8.out, zHit])
      have F9 := Lib.hid (show w4.heap[w.heap.size + 3]? = some (.cells #[.int .i64 m0, .int .i64 m1, .int .i64 m2, .bool m3, .int .i64 m4] faultT (0, 0)) by rw [hw4]; simp [World.setCell, Array.getElem?_modify, E9.out, zFault])
      have FO := Lib.hid (show Own w4 w2.heap.size intT 1 intCells rd R cr by rw [hw4]; exact (by repeat (first | (with_reducible exact Hho.out) | (with_reducible refine Own.set_far ?_ (by (first | (dsimp only; omega) | omega | (simp; done) | (simp; omega))) _))))
      have FB := Lib.hid (show Below w.heap.size w w4 by rw [hw4]; exact (by repeat' (first | (with_reducible exact HB3D.out) | (with_reducible refine Below.setCell ?_ ?_ _) | (first | (dsimp only; omega) | omega | (simp; done) | (simp; omega)))))
      have h4s : w3.heap.size ≤ w4.heap.size := by rw [hw4]; simp
      clear hw4 e8 e9 ef8 ef9 E8 E9 Hho HB3
      have e8 := fun j => cell_of_row _ _ j _ _ _ F8.out
      have e9 := fun j => cell_of_row _ _ j _ _ _ F9.out
      have ef8 := fun j => frozen_of_row _ _ j _ _ F8.out
      have ef9 := fun j => frozen_of_row _ _ j _ _ F9.out
      have h8l := heap_lt F8.out
      have h9l := heap_lt F9.out
      by_cases hm0 : m0 = 0
      · have HFT := Lib.hid (show onFt (⟨l0, l1, l2, l3, l4, l5, l6, l7, l8⟩, ⟨m0, m1, m2, m3, m4⟩, rd) mid acc = flagFt ⟨l0, l1, l2, l3, l4, l5, l6, l7, l8⟩ acc 2 l8 mid by unfold onFt; rw [if_pos hm0])
        have HFL2 := Lib.hid (fun W => HFL.out l2 l3 l4 l5 l6 l7 l8 W)
        have hfc := flagFt_cells ⟨l0, l1, l2, l3, l4, l5, l6, l7, l8⟩ acc 2 l8 mid
        dsimp only at hfc
        rw [hfc] at HFL2
        clear hfc HFL
        have hr3 := HRS.out
        unfold onMid at hr3
        rw [HFT.out] at hr3
        clear HRS HFT
        generalize flagFt _ acc 2 l8 mid = ff at *
        obtain ⟨f0, f1, f2, f3, f4⟩ := ff
        dsimp only [Ft.cells, withMid] at HFL2 hr3
        have HR3 := Lib.hid hr3
        clear hr3
        subst hm0
       
        go_wp2_with fail
        refine Calls.mono (HFL2.out _) ?_
        rintro e w5 ⟨rfl, hb5⟩
        have hs5 := hb5.size
        try simp at hs5
        have HB5 := Lib.hid hb5
        clear hb5
        have G8 := Lib.hid ((HB5.out.block _ h8l).trans F8.out)
        have G9 := Lib.hid ((HB5.out.block _ h9l).trans F9.out)
        have GO := Lib.hid (FO.out.below HB5.out (Nat.le_refl _))
        have GB := Lib.hid (below_via FB.out HB5.out FB.out.size)
        clear e8 e9 ef8 ef9
        have e8 := fun j => cell_of_row _ _ j _ _ _ G8.out
        have e9 := fun j => cell_of_row _ _ j _ _ _ G9.out
        have ef8 := fun j => frozen_of_row _ _ j _ _ G8.out
        have ef9 := fun j => frozen_of_row _ _ j _ _ G9.out
        have g8l := heap_lt G8.out
        have g9l := heap_lt G9.out
        go_upto_region 11 with fail
        refine name_world ?_
        intro w6 hw6
        have K8 := Lib.hid (show w6.heap[w.heap.size + 2]? = some (.cells #[.int .i64 l0, .int .i64 l1, .bool l2, .bool l3, .bool l4, .bool l5, .bool l6, .int .i64 l7, .int .i64 l8] hitT (0, 0)) by rw [hw6]; exact (by repeat (first | (with_reducible exact G8.out) | (with_reducible refine heap_far_is (by (first | (dsimp only; omega) | omega | (simp; done) | (simp; omega))) ?_))))
        have K9 := Lib.hid (show w6.heap[w.heap.size + 3]? = some (.cells #[.int .i64 f0, .int .i64 f1, .int .i64 f2, .bool f3, .int .i64 f4] faultT (0, 0)) by rw [hw6]; simp [World.setCell, Array.getElem?_modify, G9.out])
        have KO := Lib.hid (show Own w6 w2.heap.size intT 1 intCells rd R cr by rw [hw6]; exact (by repeat (first | (with_reducible exact GO.out) | (with_reducible refine Own.set_far ?_ (by (first | (dsimp only; omega) | omega | (simp; done) | (simp; omega))) _))))
        have KB := Lib.hid (show Below w.heap.size w w6 by rw [hw6]; exact (by repeat' (first | (with_reducible exact GB.out) | (with_reducible refine Below.setCell ?_ ?_ _) | (first | (dsimp only; omega) | omega | (simp; done) | (simp; omega)))))
        have h6s : w5.heap.size ≤ w6.heap.size := by rw [hw6]; simp
        clear hw6 e8 e9 ef8 ef9
        have e8 := fun j => cell_of_row _ _ j _ _ _ K8.out
        have e9 := fun j => cell_of_row _ _ j _ _ _ K9.out
        have ef8 := fun j => frozen_of_row _ _ j _ _ K8.out
        have k8l := heap_lt K8.out
        have k9l := heap_lt K9.out
        by_cases hf0 : f0 = 0
        · subst hf0
          obtain rfl : res = _ := HR3.out.symm.trans (by rw [if_pos rfl])
         
          go_upto_region 14 with fail
          refine name_world ?_
          intro w7 hw7
          have M8 := Lib.hid (show w7.heap[w.heap.size + 2]? = some (.cells #[.int .i64 l0, .int .i64 mid, .bool l2, .bool l3, .bool l4, .bool l5, .bool l6, .int .i64 l7, .int .i64 l8] hitT (0, 0)) by rw [hw7]; simp [World.setCell, Array.getElem?_modify, K8.out])
          have M9 := Lib.hid (show w7.heap[w.heap.size + 3]? = some (.cells #[.int .i64 0, .int .i64 f1, .int .i64 f2, .bool f3, .int .i64 f4] faultT (0, 0)) by rw [hw7]; exact (by repeat (first | (with_reducible exact K9.out) | (with_reducible refine heap_far_is (by (first | (dsimp only; omega) | omega | (simp; done) | (simp; omega))) ?_))))
          have MO := Lib.hid (show Own w7 w2.heap.size intT 1 intCells rd R cr by rw [hw7]; exact (by repeat (first | (with_reducible exact KO.out) | (with_reducible refine Own.set_far ?_ (by (first | (dsimp only; omega) | omega | (simp; done) | (simp; omega))) _))))
          have MB := Lib.hid (show Below w.heap.size w w7 by rw [hw7]; exact (by repeat' (first | (with_reducible exact KB.out) | (with_reducible refine Below.setCell ?_ ?_ _) | (first | (dsimp only; omega) | omega | (simp; done) | (simp; omega)))))
          have h7s : w6.heap.size ≤ w7.heap.size := by rw [hw7]; simp
          clear hw7 e8 e9 ef8
          refine wp_region_done (fun d w9 => Put2C (w7) 3 (w.heap.size + 2) (hitT) (#[.int .i64 l0, .int .i64 mid, .bool l2, .bool l3, .bool l4, .bool l5, .bool l6, .int .i64 l7, .int .i64 l8]) (#[.int .i64 l0, .int .i64 mid, .bool l2, .bool l3, .bool l4, .bool l5, .bool l6, .int .i64 l7, .int .i64 l8]) 4 (w.heap.size + 3) (faultT) (#[.int .i64 0, .int .i64 f1, .int .i64 f2, .bool f3, .int .i64 f4]) (#[.int .i64 0, .int .i64 f1, .int .i64 f2, .bool f3, .int .i64 f4]) d w9) (by kernel_rfl) (by kernel_rfl) (put2_start (M8.out) (M9.out)) ?_
          repeat (first
            | (refine wpLex_pass (by rfl) (passes_put2 (by rfl) (by rfl)) ?_; (conv => arg 9; simp only [put_lit, put_lit_none, List.set]))
            | (refine wpLex_put2 (by rfl) (by rfl) (by rfl) ?_
               apply Exists.intro
               refine ⟨?_, ?_⟩
               · intro w' hsz hkw hz1 hz2
                 try (replace hz1 := hz1 rfl; have hzc1 := fun j => cell_of_row _ _ j _ _ _ hz1; have hzf1 := fun j => frozen_of_row _ _ j _ _ hz1)
                 try (replace hz2 := hz2 rfl; have hzc2 := fun j => cell_of_row _ _ j _ _ _ hz2; have hzf2 := fun j => frozen_of_row _ _ j _ _ hz2)
                 clear hkw
                 try clear hz1
                 try clear hz2
                 go_simp
                 first
                   | exact ⟨rfl, Below.refl _ _⟩
                   | exact Below.refl _ _
               conv => arg 9; simp only [put_lit, put_lit_none, List.set])
            | (refine wpLex_put2a (by rfl) (by rfl) (by rfl) (by omega) undef ?_ ?_
               · intro w' hz
                 have hzc := fun j => cell_of_row _ _ j _ _ _ hz
                 have hzf := fun j => frozen_of_row _ _ j _ _ hz
                 go_simp
                 exact ⟨(by repeat' (first | (with_reducible exact Below.refl _ _) | (with_reducible (refine Below.setCell ?_ ?_ _)) | omega | (simp; done))), (fun x hx => by repeat (rw [heap_set_other (by exact hx)])), (by simp [World.setCell, Array.getElem?_modify, hz])⟩
               conv => arg 9; simp only [put_lit, put_lit_none, List.set])
            | (refine wpLex_put2b (by rfl) (by rfl) (by rfl) (by omega) undef ?_ ?_
               · intro w' hz
                 have hzc := fun j => cell_of_row _ _ j _ _ _ hz
                 have hzf := fun j => frozen_of_row _ _ j _ _ hz
                 go_simp
                 exact ⟨(by repeat' (first | (with_reducible exact Below.refl _ _) | (with_reducible (refine Below.setCell ?_ ?_ _)) | omega | (simp; done))), (fun x hx => by repeat (rw [heap_set_other (by exact hx)])), (by simp [World.setCell, Array.getElem?_modify, hz])⟩
               conv => arg 9; simp only [put_lit, put_lit_none, List.set]))
          refine wpLex_nil ?_
          intro wt dt hdt hCt
          obtain ⟨hbt, hkt, hxt, hyt⟩ := put2_done hCt (hdt 3 (by decide)) (hdt 4 (by decide))
          clear hCt hdt
          have hst := hbt.size
          have HBt := Lib.hid hbt
          have HKt := Lib.hid hkt
          have HXt := Lib.hid hxt
          have HYt := Lib.hid hyt
          clear hbt hkt hxt hyt
          have e8 := fun j => cell_of_row _ _ j _ _ _ HXt.out
          have e9 := fun j => cell_of_row _ _ j _ _ _ HYt.out
          go_wp2
          refine bodyPost_ret (v := .tuple #[.agg #[.int .i64 l0, .int .i64 mid, .bool l2, .bool l3, .bool l4, .bool l5, .bool l6, .int .i64 l7, .int .i64 l8], .agg #[.int .i64 0, .int .i64 f1, .int .i64 f2, .bool f3, .int .i64 f4], .slice R rd.length cr, .int .i64 0]) (by simp [results, Try.results27, go_sem, *]) rfl ⟨R, cr, rfl, ?_, below_via MB.out HBt.out (by omega)⟩
          exact (MO.out.keep fun x hx1 hx2 _ => HKt.out x hx2 (by omega) (by omega)).mono (by omega)
        · have qf : (f0 != 0) = true := by simpa using hf0
          obtain rfl : res = _ := HR3.out.symm.trans (by rw [if_neg hf0])
         
          go_upto_region 12 with fail
          refine wp_region_done (fun d w9 => Put2C (w6) 3 (w.heap.size + 2) (hitT) (#[.int .i64 l0, .int .i64 l1, .bool l2, .bool l3, .bool l4, .bool l5, .bool l6, .int .i64 l7, .int .i64 l8]) (#[.int .i64 0, .int .i64 0, .bool false, .bool false, .bool false, .bool false, .bool false, .int .i64 0, .int .i64 0]) 4 (w.heap.size + 3) (faultT) (#[.int .i64 f0, .int .i64 f1, .int .i64 f2, .bool f3, .int .i64 f4]) (#[.int .i64 f0, .int .i64 f1, .int .i64 f2, .bool f3, .int .i64 f4]) d w9) (by kernel_rfl) (by kernel_rfl) (put2_start (K8.out) (K9.out)) ?_
          repeat (first
            | (refine wpLex_pass (by rfl) (passes_put2 (by rfl) (by rfl)) ?_; (conv => arg 9; simp only [put_lit, put_lit_none, List.set]))
            | (refine wpLex_put2 (by rfl) (by rfl) (by rfl) ?_
               apply Exists.intro
               refine ⟨?_, ?_⟩
               · intro w' hsz hkw hz1 hz2
                 try (replace hz1 := hz1 rfl; have hzc1 := fun j => cell_of_row _ _ j _ _ _ hz1; have hzf1 := fun j => frozen_of_row _ _ j _ _ hz1)
                 try (replace hz2 := hz2 rfl; have hzc2 := fun j => cell_of_row _ _ j _ _ _ hz2; have hzf2 := fun j => frozen_of_row _ _ j _ _ hz2)
                 clear hkw
                 try clear hz1
                 try clear hz2
                 go_simp
                 first
                   | exact ⟨rfl, Below.refl _ _⟩
                   | exact Below.refl _ _
               conv => arg 9; simp only [put_lit, put_lit_none, List.set])
            | (refine wpLex_put2a (by rfl) (by rfl) (by rfl) (by omega) undef ?_ ?_
               · intro w' hz
                 have hzc := fun j => cell_of_row _ _ j _ _ _ hz
                 have hzf := fun j => frozen_of_row _ _ j _ _ hz
                 go_simp
                 exact ⟨(by repeat' (first | (with_reducible exact Below.refl _ _) | (with_reducible (refine Below.setCell ?_ ?_ _)) | omega | (simp; done))), (fun x hx => by repeat (rw [heap_set_other (by exact hx)])), (by simp [World.setCell, Array.getElem?_modify, hz])⟩
               conv => arg 9; simp only [put_lit, put_lit_none, List.set])
            | (refine wpLex_put2b (by rfl) (by rfl) (by rfl) (by omega) undef ?_ ?_
               · intro w' hz
                 have hzc := fun j => cell_of_row _ _ j _ _ _ hz
                 have hzf := fun j => frozen_of_row _ _ j _ _ hz
                 go_simp
                 exact ⟨(by repeat' (first | (with_reducible exact Below.refl _ _) | (with_reducible (refine Below.setCell ?_ ?_ _)) | omega | (simp; done))), (fun x hx => by repeat (rw [heap_set_other (by exact hx)])), (by simp [World.setCell, Array.getElem?_modify, hz])⟩
               conv => arg 9; simp only [put_lit, put_lit_none, List.set]))
          refine wpLex_nil ?_
          intro wt dt hdt hCt
          obtain ⟨hbt, hkt, hxt, hyt⟩ := put2_done hCt (hdt 3 (by decide)) (hdt 4 (by decide))
          clear hCt hdt
          have hst := hbt.size
          have HBt := Lib.hid hbt
          have HKt := Lib.hid hkt
          have HXt := Lib.hid hxt
          have HYt := Lib.hid hyt
          clear hbt hkt hxt hyt
          clear e8 e9
          have e8 := fun j => cell_of_row _ _ j _ _ _ HXt.out
          have e9 := fun j => cell_of_row _ _ j _ _ _ HYt.out
          go_wp2
          refine bodyPost_ret (v := .tuple #[.agg noHt.cells.toArray, .agg #[.int .i64 f0, .int .i64 f1, .int .i64 f2, .bool f3, .int .i64 f4], .slice R rd.length cr, .int .i64 0]) (by simp [noHt, Ht.cells, results, Try.results27, go_sem, *]) rfl ⟨R, cr, rfl, ?_, below_via KB.out HBt.out (by omega)⟩
          exact (KO.out.keep fun x hx1 hx2 _ => HKt.out x hx2 (by omega) (by omega)).mono (by omega)
      · have HFT := Lib.hid (show onFt (⟨l0, l1, l2, l3, l4, l5, l6, l7, l8⟩, ⟨m0, m1, m2, m3, m4⟩, rd) mid acc = ⟨m0, m1, m2, m3, m4⟩ by unfold onFt; rw [if_neg hm0])
        have qf : (m0 != 0) = true := by simpa using hm0
        have qf2 : (m0 == 0) = false := by simpa using hm0
        have hr3 := HRS.out
        unfold onMid at hr3
        rw [HFT.out] at hr3
        dsimp only at hr3
        rw [if_neg hm0] at hr3
        obtain rfl : res = _ := hr3.symm
       
        go_upto_region 12 with fail
        refine wp_region_done (fun d w9 => Put2C (w4) 3 (w.heap.size + 2) (hitT) (#[.int .i64 l0, .int .i64 l1, .bool l2, .bool l3, .bool l4, .bool l5, .bool l6, .int .i64 l7, .int .i64 l8]) (#[.int .i64 0, .int .i64 0, .bool false, .bool false, .bool false, .bool false, .bool false, .int .i64 0, .int .i64 0]) 4 (w.heap.size + 3) (faultT) (#[.int .i64 m0, .int .i64 m1, .int .i64 m2, .bool m3, .int .i64 m4]) (#[.int .i64 m0, .int .i64 m1, .int .i64 m2, .bool m3, .int .i64 m4]) d w9) (by kernel_rfl) (by kernel_rfl) (put2_start (F8.out) (F9.out)) ?_
        repeat (first
          | (refine wpLex_pass (by rfl) (passes_put2 (by rfl) (by rfl)) ?_; (conv => arg 9; simp only [put_lit, put_lit_none, List.set]))
          | (refine wpLex_put2 (by rfl) (by rfl) (by rfl) ?_
             apply Exists.intro
             refine ⟨?_, ?_⟩
             · intro w' hsz hkw hz1 hz2
               try (replace hz1 := hz1 rfl; have hzc1 := fun j => cell_of_row _ _ j _ _ _ hz1; have hzf1 := fun j => frozen_of_row _ _ j _ _ hz1)
               try (replace hz2 := hz2 rfl; have hzc2 := fun j => cell_of_row _ _ j _ _ _ hz2; have hzf2 := fun j => frozen_of_row _ _ j _ _ hz2)
               clear hkw
               try clear hz1
               try clear hz2
               go_simp
               first
                 | exact ⟨rfl, Below.refl _ _⟩
                 | exact Below.refl _ _
             conv => arg 9; simp only [put_lit, put_lit_none, List.set])
          | (refine wpLex_put2a (by rfl) (by rfl) (by rfl) (by omega) undef ?_ ?_
             · intro w' hz
               have hzc := fun j => cell_of_row _ _ j _ _ _ hz
               have hzf := fun j => frozen_of_row _ _ j _ _ hz
               go_simp
               exact ⟨(by repeat' (first | (with_reducible exact Below.refl _ _) | (with_reducible (refine Below.setCell ?_ ?_ _)) | omega | (simp; done))), (fun x hx => by repeat (rw [heap_set_other (by exact hx)])), (by simp [World.setCell, Array.getElem?_modify, hz])⟩
             conv => arg 9; simp only [put_lit, put_lit_none, List.set])
          | (refine wpLex_put2b (by rfl) (by rfl) (by rfl) (by omega) undef ?_ ?_
             · intro w' hz
               have hzc := fun j => cell_of_row _ _ j _ _ _ hz
               have hzf := fun j => frozen_of_row _ _ j _ _ hz
               go_simp
               exact ⟨(by repeat' (first | (with_reducible exact Below.refl _ _) | (with_reducible (refine Below.setCell ?_ ?_ _)) | omega | (simp; done))), (fun x hx => by repeat (rw [heap_set_other (by exact hx)])), (by simp [World.setCell, Array.getElem?_modify, hz])⟩
             conv => arg 9; simp only [put_lit, put_lit_none, List.set]))
        refine wpLex_nil ?_
        intro wt dt hdt hCt
        obtain ⟨hbt, hkt, hxt, hyt⟩ := put2_done hCt (hdt 3 (by decide)) (hdt 4 (by decide))
        clear hCt hdt
        have hst := hbt.size
        have HBt := Lib.hid hbt
        have HKt := Lib.hid hkt
        have HXt := Lib.hid hxt
        have HYt := Lib.hid hyt
        clear hbt hkt hxt hyt
        clear e8 e9
        have e8 := fun j => cell_of_row _ _ j _ _ _ HXt.out
        have e9 := fun j => cell_of_row _ _ j _ _ _ HYt.out
        go_wp2
        refine bodyPost_ret (v := .tuple #[.agg noHt.cells.toArray, .agg #[.int .i64 m0, .int .i64 m1, .int .i64 m2, .bool m3, .int .i64 m4], .slice R rd.length cr, .int .i64 0]) (by simp [noHt, Ht.cells, results, Try.results27, go_sem, *]) rfl ⟨R, cr, rfl, ?_, below_via FB.out HBt.out (by omega)⟩
        exact (FO.out.keep fun x hx1 hx2 _ => HKt.out x hx2 (by omega) (by omega)).mono (by omega)

end Go.Proofs.Ytddbndmbcdeggaa
