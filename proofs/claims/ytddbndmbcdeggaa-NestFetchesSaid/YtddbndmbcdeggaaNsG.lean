/-
  Where a page is, by both stages: the program's answer. Conditions: the memory reads as such.
-/
import Derived.Test.YtddbndmbcdeggaaNsF
namespace Go.Proofs.Ytddbndmbcdeggaa
open Go Go.RowKit

def transOk (n : Nat) (one two : Rt) (page acc : Int) : Bool := askedB n acc [one.frame, two.frame, page]
def offTr (r : Ht × Ft × List Int) : Ht × Ft × List Int := (if r.2.1.kind = 0 then ⟨r.1.frame, r.1.mid, r.1.r, r.1.w, r.1.x, r.1.af, r.1.ng, 0, 3⟩ else r.1, r.2.1, r.2.2)
/-- Where a page is, of what may be. -/
def transOf (ws : List Int) (one two : Rt) (page acc : Int) : Ht × Ft × List Int := if one.on then transA ws two page acc 4 0 one.frame [] else offTr (midRes ws two page acc)
def transRes (ws : List Int) (one two : Rt) (page acc : Int) : Ht × Ft × List Int := if transOk ws.length one two page acc then transOf ws one two page acc else (noHt, noFt, [])
def transEr (n : Nat) (one two : Rt) (page acc : Int) : Int := if transOk n one two page acc then 0 else 1

set_option maxRecDepth 100000 in
set_option maxHeartbeats 16000000 in
theorem Trans_any (A : Option Addr) (c : Nat) (ws : List Int) (one two : Rt) (page acc : Int) (w : World) (hA : MeAt w A c ws) :
    Calls Try.prog 32 #[.agg #[.slice A ws.length c], .agg one.cells.toArray, .agg two.cells.toArray, .int .i64 page, .int .i64 acc] w
      (WPost w (transRes ws one two page acc).1.cells.toArray (transRes ws one two page acc).2.1.cells.toArray [.int .i64 (transEr ws.length one two page acc)] (transRes ws one two page acc).2.2) := by
  have HA := Lib.hid hA
  have hlen := hA.len
  obtain ⟨ok, hok⟩ : ∃ b, transOk ws.length one two page acc = b := ⟨_, rfl⟩
  have HASK := Lib.hid (fun (L : Option Addr) W (hL : At W L 1 intCells [one.frame, two.frame, page]) => asked_any A ws.length c acc L 3 [one.frame, two.frame, page] W hlen (by simp) hL)
  rw [show askedB ws.length acc [one.frame, two.frame, page] = ok from hok] at HASK
  have HOK := Lib.hid (show ok = true → accOk acc = true ∧ 0 ≤ page ∧ page ≤ 4095 from fun h => by
    rw [h] at hok
    unfold transOk askedB at hok
    have h2 : accOk acc = true ∧ memOk ws.length = true ∧ numOk one.frame 4095 = true ∧ numOk two.frame 4095 = true ∧ numOk page 4095 = true := by simpa [Bool.and_eq_true] using hok
    have h3 := h2.2.2.2.2
    unfold numOk at h3
    simp only [Bool.and_eq_true, decide_eq_true_eq] at h3
    exact ⟨h2.1, h3⟩)
  obtain ⟨res, hres⟩ : ∃ r, transRes ws one two page acc = r := ⟨_, rfl⟩
  obtain ⟨er, her⟩ : ∃ r, transEr ws.length one two page acc = r := ⟨_, rfl⟩
  have HR0 := Lib.hid (show ok = false → (noHt, noFt, []) = res ∧ 1 = er from fun h => by
    rw [← hres, ← her]
    unfold transRes transEr
    rw [hok, h]
    exact ⟨rfl, rfl⟩)
  have HR1 := Lib.hid (show ok = true → transOf ws one two page acc = res ∧ 0 = er from fun h => by
    rw [← hres, ← her]
    unfold transRes transEr
    rw [hok, h]
    exact ⟨rfl, rfl⟩)
  rw [hres, her]
  clear hok hres her
  obtain ⟨n, hn⟩ : ∃ n, ws.length = n := ⟨_, rfl⟩
  have HN := Lib.hid hn
  have HFM := Lib.hid (fun (h1 : accOk acc = true) (h2 : 0 ≤ page) (h3 : page ≤ 4095) W0 (hb : Below w.heap.size w W0) W (hW : W = W0.alloc (.cells (nwayRow A n c two page acc none 0 0) nwayT)) => by
    subst hW
    have h := nFrom_any W0.heap.size A c ws two page acc one.frame W0 (W0.alloc (.cells (nwayRow A n c two page acc none 0 0) nwayT)) (hA.below hb) (Nat.le_refl _) ((Below.refl _ _).alloc (Nat.le_refl _) _) (by rw [hn]; exact heap_new _ _) h1 h2 h3
    rw [hn] at h
    exact h)
  have HMD := Lib.hid (fun W0 (hb : Below w.heap.size w W0) W (hW : W = W0.alloc (.cells (nwayRow A n c two page acc none 0 0) nwayT)) => by
    subst hW
    have h := nMid_any W0.heap.size A c ws two page acc [] none 0 page acc W0 (W0.alloc (.cells (nwayRow A n c two page acc none 0 0) nwayT)) (hA.below hb) (Nat.le_refl _) ((Below.refl _ _).alloc (Nat.le_refl _) _) (by simp) (by rw [hn]; exact heap_new _ _) (World.ownsRow_nil _ _ _ _)
    rw [hn] at h
    exact h)
  rw [hn] at HASK hlen ⊢
  clear hA hn
  obtain ⟨on1, of1, ot1⟩ := one
  obtain ⟨on2, of2, ot2⟩ := two
  dsimp only [Rt.cells] at *
  go_enter Try.func32, Try.ntmps32
  go_upto_region 1 with fail
  refine name_world ?_
  intro w1 hw1
  have H5 := Lib.hid (show w1.heap[w.heap.size]? = some (.cells #[.slice A n c] 24 (0, 0)) by rw [hw1]; exact (by repeat (first | (with_reducible assumption) | (exact heap_at _ _ (by simp; done)) | (with_reducible refine heap_old_is _ _ (by (first | omega | (simp; done) | (simp; omega))) ?_) | (with_reducible refine heap_far_is (by (first | omega | (simp; done) | (simp; omega))) ?_))))
  have H6 := Lib.hid (show w1.heap[w.heap.size + 1]? = some (.cells #[.bool on1, .int .i64 of1, .int .i64 ot1] rootT (0, 0)) by rw [hw1]; exact (by repeat (first | (with_reducible assumption) | (exact heap_at _ _ (by simp; done)) | (with_reducible refine heap_old_is _ _ (by (first | omega | (simp; done) | (simp; omega))) ?_) | (with_reducible refine heap_far_is (by (first | omega | (simp; done) | (simp; omega))) ?_))))
  have H7 := Lib.hid (show w1.heap[w.heap.size + 2]? = some (.cells #[.bool on2, .int .i64 of2, .int .i64 ot2] rootT (0, 0)) by rw [hw1]; exact (by repeat (first | (with_reducible assumption) | (exact heap_at _ _ (by simp; done)) | (with_reducible refine heap_old_is _ _ (by (first | omega | (simp; done) | (simp; omega))) ?_) | (with_reducible refine heap_far_is (by (first | omega | (simp; done) | (simp; omega))) ?_))))
  have H10 := Lib.hid (show w1.heap[w.heap.size + 3]? = some (.cells zHit hitT (0, 0)) by rw [hw1]; exact (by repeat (first | (with_reducible assumption) | (exact heap_at _ _ (by simp; done)) | (with_reducible refine heap_old_is _ _ (by (first | omega | (simp; done) | (simp; omega))) ?_) | (with_reducible refine heap_far_is (by (first | omega | (simp; done) | (simp; omega))) ?_))))
  have H11 := Lib.hid (show w1.heap[w.heap.size + 4]? = some (.cells zFault faultT (0, 0)) by rw [hw1]; exact (by repeat (first | (with_reducible assumption) | (exact heap_at _ _ (by simp; done)) | (with_reducible refine heap_old_is _ _ (by (first | omega | (simp; done) | (simp; omega))) ?_) | (with_reducible refine heap_far_is (by (first | omega | (simp; done) | (simp; omega))) ?_))))
  have HB1 := Lib.hid (show Below w.heap.size w w1 by rw [hw1]; repeat' (first | (with_reducible exact Below.refl _ _) | (with_reducible (refine Below.setCell ?_ ?_ _)) | (with_reducible (refine Below.alloc ?_ ?_ _)) | (with_reducible (refine Below.drew ?_)) | omega | (simp; done) | (simp; omega)))
  have hs1 : w.heap.size + 5 ≤ w1.heap.size := by rw [hw1]; simp
  clear hw1
  have x5 := fun j => cell_of_row _ _ j _ _ _ H5.out
  have x6 := fun j => cell_of_row _ _ j _ _ _ H6.out
  have x7 := fun j => cell_of_row _ _ j _ _ _ H7.out
  have xf5 := fun j => frozen_of_row _ _ j _ _ H5.out
  have xf6 := fun j => frozen_of_row _ _ j _ _ H6.out
  have xf7 := fun j => frozen_of_row _ _ j _ _ H7.out
  have hl5 := heap_lt H5.out
  have hl6 := heap_lt H6.out
  have hl7 := heap_lt H7.out
  go_wp2_with fail
  refine Calls.mono (HASK.out _ _ (by exact at_ints _ _ _ (by simp) _ rfl)) ?_
  rintro e w2 ⟨rfl, hb2⟩
  have hs2 := hb2.size
  try simp at hs2
  have HB2 := Lib.hid hb2
  clear hb2
  have D5 := Lib.hid ((HB2.out.block _ (by simp; omega)).trans ((heap_old _ _ (by omega)).trans H5.out))
  have D6 := Lib.hid ((HB2.out.block _ (by simp; omega)).trans ((heap_old _ _ (by omega)).trans H6.out))
  have D7 := Lib.hid ((HB2.out.block _ (by simp; omega)).trans ((heap_old _ _ (by omega)).trans H7.out))
  have D10 := Lib.hid ((HB2.out.block _ (by simp; omega)).trans ((heap_old _ _ (by omega)).trans H10.out))
  have D11 := Lib.hid ((HB2.out.block _ (by simp; omega)).trans ((heap_old _ _ (by omega)).trans H11.out))
  have HBD := Lib.hid (show Below w.heap.size w w2 from (by repeat' (first | (with_reducible exact Below.refl _ _) | (with_reducible (refine Below.setCell ?_ ?_ _)) | (with_reducible (refine Below.alloc ?_ ?_ _)) | (with_reducible (refine Below.drew ?_)) | (with_reducible (refine below_via ?_ HB2.out ?_)) | (with_reducible (refine below_via ?_ HB1.out ?_)) | omega | (simp; done) | (simp; omega))))
  clear x5 x6 x7 xf5 xf6 xf7 H5 H6 H7 H10 H11
  have hsd : w.heap.size + 5 ≤ w2.heap.size := by omega
 
  cases ok
  · obtain ⟨rfl, rfl⟩ := HR0.out rfl
    clear HR0 HR1
    go_upto_region 2 with fail
    refine wp_region_done (fun d w9 => Put2C (w2) 2 (w.heap.size + 3) (hitT) (#[.int .i64 0, .int .i64 0, .bool false, .bool false, .bool false, .bool false, .bool false, .int .i64 0, .int .i64 0]) (#[.int .i64 0, .int .i64 0, .bool false, .bool false, .bool false, .bool false, .bool false, .int .i64 0, .int .i64 0]) 3 (w.heap.size + 4) (faultT) (#[.int .i64 0, .int .i64 0, .int .i64 0, .bool false, .int .i64 0]) (#[.int .i64 0, .int .i64 0, .int .i64 0, .bool false, .int .i64 0]) d w9) (by kernel_rfl) (by kernel_rfl) (put2_start (D10.out) (D11.out)) ?_
    repeat (first
      | (refine wpLex_pass (by rfl) (passes_put2 (by rfl) (by rfl)) ?_; (conv => arg 9; simp only [put_lit, put_lit_none, List.set]))
      | (refine wpLex_put2 (by rfl) (by rfl) (by rfl) ?_
         apply Exists.intro
         refine ⟨?_, ?_⟩
         · intro w' hsz hkw hz1 hz2
           try (replace hz1 := hz1 rfl; have hzc1 := fun j => cell_of_row _ _ j _ _ _ hz1; have hzf1 := fun j => frozen_of_row _ _ j _ _ hz1)
           try (replace hz2 := hz2 rfl; have hzc2 := fun j => cell_of_row _ _ j _ _ _ hz2; have hzf2 := fun j => frozen_of_row _ _ j _ _ hz2)
           clear hkw
           try clear hz1
           try clear hz2
           go_simp
           first
             | exact ⟨rfl, Below.refl _ _⟩
             | exact Below.refl _ _
         conv => arg 9; simp only [put_lit, put_lit_none, List.set])
      | (refine wpLex_put2a (by rfl) (by rfl) (by rfl) (by omega) undef ?_ ?_
         · intro w' hz
           have hzc := fun j => cell_of_row _ _ j _ _ _ hz
           have hzf := fun j => frozen_of_row _ _ j _ _ hz
           go_simp
           exact ⟨(by repeat' (first | (with_reducible exact Below.refl _ _) | (with_reducible (refine Below.setCell ?_ ?_ _)) | omega | (simp; done))), (fun x hx => by repeat (rw [heap_set_other (by exact hx)])), (by simp [World.setCell, Array.getElem?_modify, hz])⟩
         conv => arg 9; simp only [put_lit, put_lit_none, List.set])
      | (refine wpLex_put2b (by rfl) (by rfl) (by rfl) (by omega) undef ?_ ?_
         · intro w' hz
           have hzc := fun j => cell_of_row _ _ j _ _ _ hz
           have hzf := fun j => frozen_of_row _ _ j _ _ hz
           go_simp
           exact ⟨(by repeat' (first | (with_reducible exact Below.refl _ _) | (with_reducible (refine Below.setCell ?_ ?_ _)) | omega | (simp; done))), (fun x hx => by repeat (rw [heap_set_other (by exact hx)])), (by simp [World.setCell, Array.getElem?_modify, hz])⟩
         conv => arg 9; simp only [put_lit, put_lit_none, List.set]))
    refine wpLex_nil ?_
    intro wt dt hdt hCt
    obtain ⟨hbt, hkt, hxt, hyt⟩ := put2_done hCt (hdt 2 (by decide)) (hdt 3 (by decide))
    clear hCt hdt
    have hst := hbt.size
    have HBt := Lib.hid hbt
    have HKt := Lib.hid hkt
    have HXt := Lib.hid hxt
    have HYt := Lib.hid hyt
    clear hbt hkt hxt hyt
    have e8 := fun j => cell_of_row _ _ j _ _ _ HXt.out
    have e9 := fun j => cell_of_row _ _ j _ _ _ HYt.out
    go_wp2
    refine bodyPost_ret (v := .tuple #[.agg noHt.cells.toArray, .agg noFt.cells.toArray, .slice none 0 0, .int .i64 1]) (by simp [noHt, noFt, Ht.cells, Ft.cells, results, Try.results32, go_sem, *]) rfl ⟨none, 0, rfl, World.ownsRow_nil _ _ _ _, below_via HBD.out HBt.out (by omega)⟩
  · obtain ⟨hr1, rfl⟩ := HR1.out rfl
    obtain ⟨ha, hp0, hp1⟩ := HOK.out rfl
    have HFM2 := Lib.hid (HFM.out ha hp0 hp1)
    unfold transOf at hr1
    dsimp only at hr1
    have HRES := Lib.hid hr1
    clear ha hp0 hp1 HFM HOK hr1 HR0 HR1 HASK
    have x5 := fun j => cell_of_row _ _ j _ _ _ D5.out
    have x6 := fun j => cell_of_row _ _ j _ _ _ D6.out
    have x7 := fun j => cell_of_row _ _ j _ _ _ D7.out
    have xf5 := fun j => frozen_of_row _ _ j _ _ D5.out
    have xf6 := fun j => frozen_of_row _ _ j _ _ D6.out
    have xf7 := fun j => frozen_of_row _ _ j _ _ D7.out
    have hl5 := heap_lt D5.out
    have hl6 := heap_lt D6.out
    have hl7 := heap_lt D7.out
    cases on1
    · have hr2 : offTr (midRes ws ⟨on2, of2, ot2⟩ page acc) = res := HRES.out
      have HRS := Lib.hid hr2
      have HMD2 := Lib.hid (HMD.out w2 HBD.out)
      clear HMD HFM2 HRES hr2
      generalize midRes ws ⟨on2, of2, ot2⟩ page acc = mr at *
      obtain ⟨⟨l0, l1, l2, l3, l4, l5, l6, l7, l8⟩, ⟨m0, m1, m2, m3, m4⟩, rd⟩ := mr
      unfold WayPost at HMD2
      dsimp only [Ht.cells, Ft.cells, List.nil_append] at HMD2
     
      go_wp2_with fail
      refine Calls.mono (HMD2.out _ rfl) ?_
      rintro e w5 ⟨R, cr, rfl, hx, ho, hb5, hk5⟩
      have hs5 := hb5.size
      try simp at hs5
      have HB5 := Lib.hid hb5
      clear hb5
      have Hhx := Lib.hid hx
      clear hx
      have Hho := Lib.hid ho
      clear ho
      clear hk5
      have E10 := Lib.hid ((HB5.out.block _ (by omega)).trans ((heap_old _ _ (by omega)).trans D10.out))
      have E11 := Lib.hid ((HB5.out.block _ (by omega)).trans ((heap_old _ _ (by omega)).trans D11.out))
      have EB := Lib.hid (below_via (HBD.out.alloc (by omega) (.cells (nwayRow A n c ⟨on2, of2, ot2⟩ page acc none 0 0) nwayT)) HB5.out (by omega))
      clear x5 x6 x7 xf5 xf6 xf7
      have e10 := fun j => cell_of_row _ _ j _ _ _ E10.out
      have e11 := fun j => cell_of_row _ _ j _ _ _ E11.out
      have ef10 := fun j => frozen_of_row _ _ j _ _ E10.out
      have ef11 := fun j => frozen_of_row _ _ j _ _ E11.out
      simp only [zHit, zFault] at e10 e11
      have h10l := heap_lt E10.out
      have h11l := heap_lt E11.out
      go_upto_region 8 with fail
      refine name_world ?_
      intro w6 hw6
      have F10 := Lib.hid (show w6.heap[w.heap.size + 3]? = some (.cells #[.int .i64 l0, .int .i64 l1, .bool l2, .bool l3, .bool l4, .bool l5, .bool l6, .int .i64 l7, .int .i64 l8] hitT (0, 0)) by rw [hw6]; simp [World.setCell, Array.getElem?_modify, E10.out, zHit])
      have F11 := Lib.hid (show w6.heap[w.heap.size + 4]? = some (.cells #[.int .i64 m0, .int .i64 m1, .int .i64 m2, .bool m3, .int .i64 m4] faultT (0, 0)) by rw [hw6]; simp [World.setCell, Array.getElem?_modify, E11.out, zFault])
      have FW := Lib.hid (show w6.heap[w2.heap.size]? = some (.cells (nwayRow A n c ⟨on2, of2, ot2⟩ page acc R rd.length cr) nwayT (0, 0)) by rw [hw6]; exact (by repeat (first | (with_reducible exact Hhx.out) | (with_reducible refine heap_far_is (by (first | (dsimp only; omega) | omega | (simp; done) | (simp; omega))) ?_))))
      have FO := Lib.hid (show Own w6 (w2.heap.size + 1) intT 1 intCells rd R cr by rw [hw6]; exact (by repeat (first | (with_reducible exact Hho.out) | (with_reducible refine Own.set_far ?_ (by (first | (dsimp only; omega) | omega | (simp; done) | (simp; omega))) _))))
      have FB := Lib.hid (show Below w.heap.size w w6 by rw [hw6]; exact (by repeat' (first | (with_reducible exact EB.out) | (with_reducible refine Below.setCell ?_ ?_ _) | (first | (dsimp only; omega) | omega | (simp; done) | (simp; omega)))))
      have h6s : w2.heap.size < w6.heap.size := heap_lt FW.out
      clear hw6 e10 e11 ef10 ef11 Hhx Hho EB
      have e10 := fun j => cell_of_row _ _ j _ _ _ F10.out
      have e11 := fun j => cell_of_row _ _ j _ _ _ F11.out
      have ef10 := fun j => frozen_of_row _ _ j _ _ F10.out
      have f10l := heap_lt F10.out
      have f11l := heap_lt F11.out
      unfold offTr at HRS
      dsimp only at HRS
      by_cases hm0 : m0 = 0
      · subst hm0
        obtain rfl : res = _ := HRS.out.symm.trans (by rw [if_pos rfl])
       
        go_upto_region 10 with fail
        refine name_world ?_
        intro w7 hw7
        have K10 := Lib.hid (show w7.heap[w.heap.size + 3]? = some (.cells #[.int .i64 l0, .int .i64 l1, .bool l2, .bool l3, .bool l4, .bool l5, .bool l6, .int .i64 0, .int .i64 3] hitT (0, 0)) by rw [hw7]; simp [World.setCell, Array.getElem?_modify, F10.out])
        have K11 := Lib.hid (show w7.heap[w.heap.size + 4]? = some (.cells #[.int .i64 0, .int .i64 m1, .int .i64 m2, .bool m3, .int .i64 m4] faultT (0, 0)) by rw [hw7]; exact (by repeat (first | (with_reducible exact F11.out) | (with_reducible refine heap_far_is (by (first | (dsimp only; omega) | omega | (simp; done) | (simp; omega))) ?_))))
        have KW := Lib.hid (show w7.heap[w2.heap.size]? = some (.cells (nwayRow A n c ⟨on2, of2, ot2⟩ page acc R rd.length cr) nwayT (0, 0)) by rw [hw7]; exact (by repeat (first | (with_reducible exact FW.out) | (with_reducible refine heap_far_is (by (first | (dsimp only; omega) | omega | (simp; done) | (simp; omega))) ?_))))
        have KO := Lib.hid (show Own w7 (w2.heap.size + 1) intT 1 intCells rd R cr by rw [hw7]; exact (by repeat (first | (with_reducible exact FO.out) | (with_reducible refine Own.set_far ?_ (by (first | (dsimp only; omega) | omega | (simp; done) | (simp; omega))) _))))
        have KB := Lib.hid (show Below w.heap.size w w7 by rw [hw7]; exact (by repeat' (first | (with_reducible exact FB.out) | (with_reducible refine Below.setCell ?_ ?_ _) | (first | (dsimp only; omega) | omega | (simp; done) | (simp; omega)))))
        have h7s : w6.heap.size ≤ w7.heap.size := by rw [hw7]; simp
        clear hw7 e10 e11 ef10
        refine wp_region_done (fun d w9 => Put2C (w7) 6 (w.heap.size + 3) (hitT) (#[.int .i64 l0, .int .i64 l1, .bool l2, .bool l3, .bool l4, .bool l5, .bool l6, .int .i64 0, .int .i64 3]) (#[.int .i64 l0, .int .i64 l1, .bool l2, .bool l3, .bool l4, .bool l5, .bool l6, .int .i64 0, .int .i64 3]) 7 (w.heap.size + 4) (faultT) (#[.int .i64 0, .int .i64 m1, .int .i64 m2, .bool m3, .int .i64 m4]) (#[.int .i64 0, .int .i64 m1, .int .i64 m2, .bool m3, .int .i64 m4]) d w9) (by kernel_rfl) (by kernel_rfl) (put2_start (K10.out) (K11.out)) ?_
        repeat (first
          | (refine wpLex_pass (by rfl) (passes_put2 (by rfl) (by rfl)) ?_; (conv => arg 9; simp only [put_lit, put_lit_none, List.set]))
          | (refine wpLex_put2 (by rfl) (by rfl) (by rfl) ?_
             apply Exists.intro
             refine ⟨?_, ?_⟩
             · intro w' hsz hkw hz1 hz2
               try (replace hz1 := hz1 rfl; have hzc1 := fun j => cell_of_row _ _ j _ _ _ hz1; have hzf1 := fun j => frozen_of_row _ _ j _ _ hz1)
               try (replace hz2 := hz2 rfl; have hzc2 := fun j => cell_of_row _ _ j _ _ _ hz2; have hzf2 := fun j => frozen_of_row _ _ j _ _ hz2)
               have q0_ := (hkw (w2.heap.size) (by omega) (by omega) (by omega)).trans ((show w7.heap[w2.heap.size]? = some (.cells #[.slice A n c, .bool on2, .int .i64 of2, .int .i64 ot2, .int .i64 page, .int .i64 acc, .slice R rd.length cr] nwayT (0, 0)) from KW.out)); have q0 := fun j => cell_of_row _ _ j _ _ _ q0_; have qf0 := fun j => frozen_of_row _ _ j _ _ q0_; clear q0_
               clear hkw
               try clear hz1
               try clear hz2
               go_simp
               first
                 | exact ⟨rfl, Below.refl _ _⟩
                 | exact Below.refl _ _
             conv => arg 9; simp only [put_lit, put_lit_none, List.set])
          | (refine wpLex_put2a (by rfl) (by rfl) (by rfl) (by omega) undef ?_ ?_
             · intro w' hz
               have hzc := fun j => cell_of_row _ _ j _ _ _ hz
               have hzf := fun j => frozen_of_row _ _ j _ _ hz
               go_simp
               exact ⟨(by repeat' (first | (with_reducible exact Below.refl _ _) | (with_reducible (refine Below.setCell ?_ ?_ _)) | omega | (simp; done))), (fun x hx => by repeat (rw [heap_set_other (by exact hx)])), (by simp [World.setCell, Array.getElem?_modify, hz])⟩
             conv => arg 9; simp only [put_lit, put_lit_none, List.set])
          | (refine wpLex_put2b (by rfl) (by rfl) (by rfl) (by omega) undef ?_ ?_
             · intro w' hz
               have hzc := fun j => cell_of_row _ _ j _ _ _ hz
               have hzf := fun j => frozen_of_row _ _ j _ _ hz
               go_simp
               exact ⟨(by repeat' (first | (with_reducible exact Below.refl _ _) | (with_reducible (refine Below.setCell ?_ ?_ _)) | omega | (simp; done))), (fun x hx => by repeat (rw [heap_set_other (by exact hx)])), (by simp [World.setCell, Array.getElem?_modify, hz])⟩
             conv => arg 9; simp only [put_lit, put_lit_none, List.set]))
        refine wpLex_nil ?_
        intro wt dt hdt hCt
        obtain ⟨hbt, hkt, hxt, hyt⟩ := put2_done hCt (hdt 6 (by decide)) (hdt 7 (by decide))
        clear hCt hdt
        have hst := hbt.size
        have HBt := Lib.hid hbt
        have HKt := Lib.hid hkt
        have HXt := Lib.hid hxt
        have HYt := Lib.hid hyt
        clear hbt hkt hxt hyt
        have e8 := fun j => cell_of_row _ _ j _ _ _ HXt.out
        have e9 := fun j => cell_of_row _ _ j _ _ _ HYt.out
        go_wp2
        refine bodyPost_ret (v := .tuple #[.agg #[.int .i64 l0, .int .i64 l1, .bool l2, .bool l3, .bool l4, .bool l5, .bool l6, .int .i64 0, .int .i64 3], .agg #[.int .i64 0, .int .i64 m1, .int .i64 m2, .bool m3, .int .i64 m4], .slice R rd.length cr, .int .i64 0]) (by simp [results, Try.results32, go_sem, *]) rfl ⟨R, cr, rfl, ?_, below_via KB.out HBt.out (by omega)⟩
        exact (KO.out.keep fun x hx1 hx2 _ => HKt.out x hx2 (by omega) (by omega)).mono (by omega)
      · have qf : (m0 == 0) = false := by simpa using hm0
        obtain rfl : res = _ := HRS.out.symm.trans (by rw [if_neg hm0])
       
        go_upto_region 10 with fail
        clear e10 e11 ef10
        refine wp_region_done (fun d w9 => Put2C (w6) 6 (w.heap.size + 3) (hitT) (#[.int .i64 l0, .int .i64 l1, .bool l2, .bool l3, .bool l4, .bool l5, .bool l6, .int .i64 l7, .int .i64 l8]) (#[.int .i64 l0, .int .i64 l1, .bool l2, .bool l3, .bool l4, .bool l5, .bool l6, .int .i64 l7, .int .i64 l8]) 7 (w.heap.size + 4) (faultT) (#[.int .i64 m0, .int .i64 m1, .int .i64 m2, .bool m3, .int .i64 m4]) (#[.int .i64 m0, .int .i64 m1, .int .i64 m2, .bool m3, .int .i64 m4]) d w9) (by kernel_rfl) (by kernel_rfl) (put2_start (F10.out) (F11.out)) ?_
        repeat (first
          | (refine wpLex_pass (by rfl) (passes_put2 (by rfl) (by rfl)) ?_; (conv => arg 9; simp only [put_lit, put_lit_none, List.set]))
          | (refine wpLex_put2 (by rfl) (by rfl) (by rfl) ?_
             apply Exists.intro
             refine ⟨?_, ?_⟩
             · intro w' hsz hkw hz1 hz2
               try (replace hz1 := hz1 rfl; have hzc1 := fun j => cell_of_row _ _ j _ _ _ hz1; have hzf1 := fun j => frozen_of_row _ _ j _ _ hz1)
               try (replace hz2 := hz2 rfl; have hzc2 := fun j => cell_of_row _ _ j _ _ _ hz2; have hzf2 := fun j => frozen_of_row _ _ j _ _ hz2)
               have q0_ := (hkw (w2.heap.size) (by omega) (by omega) (by omega)).trans ((show w6.heap[w2.heap.size]? = some (.cells #[.slice A n c, .bool on2, .int .i64 of2, .int .i64 ot2, .int .i64 page, .int .i64 acc, .slice R rd.length cr] nwayT (0, 0)) from FW.out)); have q0 := fun j => cell_of_row _ _ j _ _ _ q0_; have qf0 := fun j => frozen_of_row _ _ j _ _ q0_; clear q0_
               clear hkw
               try clear hz1
               try clear hz2
               go_simp
               first
                 | exact ⟨rfl, Below.refl _ _⟩
                 | exact Below.refl _ _
             conv => arg 9; simp only [put_lit, put_lit_none, List.set])
          | (refine wpLex_put2a (by rfl) (by rfl) (by rfl) (by omega) undef ?_ ?_
             · intro w' hz
               have hzc := fun j => cell_of_row _ _ j _ _ _ hz
               have hzf := fun j => frozen_of_row _ _ j _ _ hz
               go_simp
               exact ⟨(by repeat' (first | (with_reducible exact Below.refl _ _) | (with_reducible (refine Below.setCell ?_ ?_ _)) | omega | (simp; done))), (fun x hx => by repeat (rw [heap_set_other (by exact hx)])), (by simp [World.setCell, Array.getElem?_modify, hz])⟩
             conv => arg 9; simp only [put_lit, put_lit_none, List.set])
          | (refine wpLex_put2b (by rfl) (by rfl) (by rfl) (by omega) undef ?_ ?_
             · intro w' hz
               have hzc := fun j => cell_of_row _ _ j _ _ _ hz
               have hzf := fun j => frozen_of_row _ _ j _ _ hz
               go_simp
               exact ⟨(by repeat' (first | (with_reducible exact Below.refl _ _) | (with_reducible (refine Below.setCell ?_ ?_ _)) | omega | (simp; done))), (fun x hx => by repeat (rw [heap_set_other (by exact hx)])), (by simp [World.setCell, Array.getElem?_modify, hz])⟩
             conv => arg 9; simp only [put_lit, put_lit_none, List.set]))
        refine wpLex_nil ?_
        intro wt dt hdt hCt
        obtain ⟨hbt, hkt, hxt, hyt⟩ := put2_done hCt (hdt 6 (by decide)) (hdt 7 (by decide))
        clear hCt hdt
        have hst := hbt.size
        have HBt := Lib.hid hbt
        have HKt := Lib.hid hkt
        have HXt := Lib.hid hxt
        have HYt := Lib.hid hyt
        clear hbt hkt hxt hyt
        have e8 := fun j => cell_of_row _ _ j _ _ _ HXt.out
        have e9 := fun j => cell_of_row _ _ j _ _ _ HYt.out
        go_wp2
        refine bodyPost_ret (v := .tuple #[.agg #[.int .i64 l0, .int .i64 l1, .bool l2, .bool l3, .bool l4, .bool l5, .bool l6, .int .i64 l7, .int .i64 l8], .agg #[.int .i64 m0, .int .i64 m1, .int .i64 m2, .bool m3, .int .i64 m4], .slice R rd.length cr, .int .i64 0]) (by simp [results, Try.results32, go_sem, *]) rfl ⟨R, cr, rfl, ?_, below_via FB.out HBt.out (by omega)⟩
        exact (FO.out.keep fun x hx1 hx2 _ => HKt.out x hx2 (by omega) (by omega)).mono (by omega)
    · obtain rfl : res = _ := (show transA ws ⟨on2, of2, ot2⟩ page acc 4 0 of1 [] = res from HRES.out).symm
      have HMD2 := Lib.hid (HFM2.out w2 HBD.out)
      clear HMD HFM2 HRES
      generalize transA ws ⟨on2, of2, ot2⟩ page acc 4 0 of1 [] = mr at *
      obtain ⟨⟨l0, l1, l2, l3, l4, l5, l6, l7, l8⟩, ⟨m0, m1, m2, m3, m4⟩, rd⟩ := mr
      unfold NFromPost at HMD2
      dsimp only [Ht.cells, Ft.cells] at HMD2
     
      go_wp2_with fail
      refine Calls.mono (HMD2.out _ rfl) ?_
      rintro e w5 ⟨R, cr, rfl, hx, ho, hb5⟩
      have hs5 := hb5.size
      try simp at hs5
      have HB5 := Lib.hid hb5
      clear hb5
      have Hhx := Lib.hid hx
      clear hx
      have Hho := Lib.hid ho
      clear ho
      have E10 := Lib.hid ((HB5.out.block _ (by omega)).trans ((heap_old _ _ (by omega)).trans D10.out))
      have E11 := Lib.hid ((HB5.out.block _ (by omega)).trans ((heap_old _ _ (by omega)).trans D11.out))
      have EB := Lib.hid (below_via (HBD.out.alloc (by omega) (.cells (nwayRow A n c ⟨on2, of2, ot2⟩ page acc none 0 0) nwayT)) HB5.out (by omega))
      clear x5 x6 x7 xf5 xf6 xf7
      have e10 := fun j => cell_of_row _ _ j _ _ _ E10.out
      have e11 := fun j => cell_of_row _ _ j _ _ _ E11.out
      have ef10 := fun j => frozen_of_row _ _ j _ _ E10.out
      have ef11 := fun j => frozen_of_row _ _ j _ _ E11.out
      simp only [zHit, zFault] at e10 e11
      have h10l := heap_lt E10.out
      have h11l := heap_lt E11.out
      go_upto_region 6 with fail
      refine name_world ?_
      intro w6 hw6
      have F10 := Lib.hid (show w6.heap[w.heap.size + 3]? = some (.cells #[.int .i64 l0, .int .i64 l1, .bool l2, .bool l3, .bool l4, .bool l5, .bool l6, .int .i64 l7, .int .i64 l8] hitT (0, 0)) by rw [hw6]; simp [World.setCell, Array.getElem?_modify, E10.out, zHit])
      have F11 := Lib.hid (show w6.heap[w.heap.size + 4]? = some (.cells #[.int .i64 m0, .int .i64 m1, .int .i64 m2, .bool m3, .int .i64 m4] faultT (0, 0)) by rw [hw6]; simp [World.setCell, Array.getElem?_modify, E11.out, zFault])
      have FW := Lib.hid (show w6.heap[w2.heap.size]? = some (.cells (nwayRow A n c ⟨on2, of2, ot2⟩ page acc R rd.length cr) nwayT (0, 0)) by rw [hw6]; exact (by repeat (first | (with_reducible exact Hhx.out) | (with_reducible refine heap_far_is (by (first | (dsimp only; omega) | omega | (simp; done) | (simp; omega))) ?_))))
      have FO := Lib.hid (show Own w6 (w2.heap.size + 1) intT 1 intCells rd R cr by rw [hw6]; exact (by repeat (first | (with_reducible exact Hho.out) | (with_reducible refine Own.set_far ?_ (by (first | (dsimp only; omega) | omega | (simp; done) | (simp; omega))) _))))
      have FB := Lib.hid (show Below w.heap.size w w6 by rw [hw6]; exact (by repeat' (first | (with_reducible exact EB.out) | (with_reducible refine Below.setCell ?_ ?_ _) | (first | (dsimp only; omega) | omega | (simp; done) | (simp; omega)))))
      have h6s : w2.heap.size < w6.heap.size := heap_lt FW.out
      clear hw6 e10 e11 ef10 ef11 Hhx Hho EB
     
      refine wp_region_done (fun d w9 => Put2C (w6) 6 (w.heap.size + 3) (hitT) (#[.int .i64 l0, .int .i64 l1, .bool l2, .bool l3, .bool l4, .bool l5, .bool l6, .int .i64 l7, .int .i64 l8]) (#[.int .i64 l0, .int .i64 l1, .bool l2, .bool l3, .bool l4, .bool l5, .bool l6, .int .i64 l7, .int .i64 l8]) 7 (w.heap.size + 4) (faultT) (#[.int .i64 m0, .int .i64 m1, .int .i64 m2, .bool m3, .int .i64 m4]) (#[.int .i64 m0, .int .i64 m1, .int .i64 m2, .bool m3, .int .i64 m4]) d w9) (by kernel_rfl) (by kernel_rfl) (put2_start (F10.out) (F11.out)) ?_
      repeat (first
        | (refine wpLex_pass (by rfl) (passes_put2 (by rfl) (by rfl)) ?_; (conv => arg 9; simp only [put_lit, put_lit_none, List.set]))
        | (refine wpLex_put2 (by rfl) (by rfl) (by rfl) ?_
           apply Exists.intro
           refine ⟨?_, ?_⟩
           · intro w' hsz hkw hz1 hz2
             try (replace hz1 := hz1 rfl; have hzc1 := fun j => cell_of_row _ _ j _ _ _ hz1; have hzf1 := fun j => frozen_of_row _ _ j _ _ hz1)
             try (replace hz2 := hz2 rfl; have hzc2 := fun j => cell_of_row _ _ j _ _ _ hz2; have hzf2 := fun j => frozen_of_row _ _ j _ _ hz2)
             have q0_ := (hkw (w2.heap.size) (by omega) (by omega) (by omega)).trans ((show w6.heap[w2.heap.size]? = some (.cells #[.slice A n c, .bool on2, .int .i64 of2, .int .i64 ot2, .int .i64 page, .int .i64 acc, .slice R rd.length cr] nwayT (0, 0)) from FW.out)); have q0 := fun j => cell_of_row _ _ j _ _ _ q0_; have qf0 := fun j => frozen_of_row _ _ j _ _ q0_; clear q0_
             clear hkw
             try clear hz1
             try clear hz2
             go_simp
             first
               | exact ⟨rfl, Below.refl _ _⟩
               | exact Below.refl _ _
           conv => arg 9; simp only [put_lit, put_lit_none, List.set])
        | (refine wpLex_put2a (by rfl) (by rfl) (by rfl) (by omega) undef ?_ ?_
           · intro w' hz
             have hzc := fun j => cell_of_row _ _ j _ _ _ hz
             have hzf := fun j => frozen_of_row _ _ j _ _ hz
             go_simp
             exact ⟨(by repeat' (first | (with_reducible exact Below.refl _ _) | (with_reducible (refine Below.setCell ?_ ?_ _)) | omega | (simp; done))), (fun x hx => by repeat (rw [heap_set_other (by exact hx)])), (by simp [World.setCell, Array.getElem?_modify, hz])⟩
           conv => arg 9; simp only [put_lit, put_lit_none, List.set])
        | (refine wpLex_put2b (by rfl) (by rfl) (by rfl) (by omega) undef ?_ ?_
           · intro w' hz
             have hzc := fun j => cell_of_row _ _ j _ _ _ hz
             have hzf := fun j => frozen_of_row _ _ j _ _ hz
             go_simp
             exact ⟨(by repeat' (first | (with_reducible exact Below.refl _ _) | (with_reducible (refine Below.setCell ?_ ?_ _)) | omega | (simp; done))), (fun x hx => by repeat (rw [heap_set_other (by exact hx)])), (by simp [World.setCell, Array.getElem?_modify, hz])⟩
           conv => arg 9; simp only [put_lit, put_lit_none, List.set]))
      refine wpLex_nil ?_
      intro wt dt hdt hCt
      obtain ⟨hbt, hkt, hxt, hyt⟩ := put2_done hCt (hdt 6 (by decide)) (hdt 7 (by decide))
      clear hCt hdt
      have hst := hbt.size
      have HBt := Lib.hid hbt
      have HKt := Lib.hid hkt
      have HXt := Lib.hid hxt
      have HYt := Lib.hid hyt
      clear hbt hkt hxt hyt
      have e8 := fun j => cell_of_row _ _ j _ _ _ HXt.out
      have e9 := fun j => cell_of_row _ _ j _ _ _ HYt.out
      go_wp2
      refine bodyPost_ret (v := .tuple #[.agg #[.int .i64 l0, .int .i64 l1, .bool l2, .bool l3, .bool l4, .bool l5, .bool l6, .int .i64 l7, .int .i64 l8], .agg #[.int .i64 m0, .int .i64 m1, .int .i64 m2, .bool m3, .int .i64 m4], .slice R rd.length cr, .int .i64 0]) (by simp [results, Try.results32, go_sem, *]) rfl ⟨R, cr, rfl, ?_, below_via FB.out HBt.out (by omega)⟩
      exact (FO.out.keep fun x hx1 hx2 _ => HKt.out x hx2 (by omega) (by omega)).mono (by omega)

end Go.Proofs.Ytddbndmbcdeggaa
