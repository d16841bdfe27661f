/-
  Where a page is, by both stages, where stage 1 is off: the page's answer. Conditions: what is asked may be.
-/
import Derived.Test.YtddbndmbcdeggaaNsC
import Derived.Test.YtddbndmbcdeggaaNsG
import Derived.Test.YtddbndmbcdeggaaNsH
namespace Go.Proofs.Ytddbndmbcdeggaa
open Go Go.RowKit

theorem both_one (r w x f n : Bool) (s : Int) : both [⟨r, w, x, f, n, s⟩] = ⟨r, w, x, f, n, 0⟩ := by cases r <;> cases w <;> cases x <;> cases f <;> cases n <;> rfl
theorem transOk_parts {n : Nat} {one two : Rt} {page acc : Int} (h : transOk n one two page acc = true) : accOk acc = true ∧ memOk n = true ∧ numOk one.frame 4095 = true ∧ numOk two.frame 4095 = true ∧ numOk page 4095 = true := by
  unfold transOk askedB at h
  simpa [Bool.and_eq_true] using h
theorem midOk_of {n : Nat} {two : Rt} {mid acc : Int} (ha : accOk acc = true) (hm : memOk n = true) (hf : numOk two.frame 4095 = true) (hp : numOk mid 4095 = true) : midOk n two mid acc = true := by
  unfold midOk askedB
  simp [ha, hm, hf, hp]
theorem midRes_of {ws : List Int} {two : Rt} {mid acc : Int} (h : midOk ws.length two mid acc = true) : midRes ws two mid acc = midOf ws two mid acc := by
  unfold midRes
  rw [if_pos h]

set_option maxRecDepth 100000 in
set_option maxHeartbeats 16000000 in
theorem rTrans_off (A : Option Addr) (c : Nat) (ws : List Int) (one two : Rt) (page acc : Int) (w : World) (hA : MeAt w A c ws) (hok : transOk ws.length one two page acc = true) (hon : one.on = false) :
    Calls Try.prog 33 #[.agg #[.slice A ws.length c], .agg one.cells.toArray, .agg two.cells.toArray, .int .i64 page, .int .i64 acc] w
      (WPost w (transOf ws one two page acc).1.cells.toArray (transOf ws one two page acc).2.1.cells.toArray [] (transOf ws one two page acc).2.2) := by
  obtain ⟨ha, hm, h1f, h2f, hpg⟩ := transOk_parts hok
  have hmok := midOk_of ha hm h2f hpg
  have HMI := Lib.hid (fun W (hb : Below w.heap.size w W) => rMid_any A c ws two page acc W (hA.below hb) hmok)
  rw [← midRes_of hmok] at HMI
  have hres : transOf ws one two page acc = offTr (midRes ws two page acc) := by unfold transOf; rw [hon, if_neg (by decide)]
  rw [hres]
  obtain ⟨res, hrs⟩ : ∃ x, offTr (midRes ws two page acc) = x := ⟨_, rfl⟩
  rw [hrs]
  clear hA hok ha hm h1f h2f hpg hmok hres
  generalize midRes ws two page acc = mr at *
  obtain ⟨⟨l0, l1, l2, l3, l4, l5, l6, l7, l8⟩, ⟨m0, m1, m2, m3, m4⟩, rd⟩ := mr
  have HRS := Lib.hid hrs
  unfold WPost at HMI
  have HBO := Lib.hid (fun (L : Option Addr) W (hL : At W L 6 Attr.cells [⟨l2, l3, l4, l5, l6, l7⟩]) => refBoth_any L 1 _ W (by simp) hL)
  rw [both_one] at HBO
  obtain ⟨on1, of1, ot1⟩ := one
  obtain ⟨on2, of2, ot2⟩ := two
  dsimp only at hon
  subst hon
  dsimp only [Rt.cells, Ht.cells, Ft.cells, Attr.cells, List.length_cons, List.length_nil] at *
  obtain ⟨n, hn⟩ : ∃ n, ws.length = n := ⟨_, rfl⟩
  rw [hn] at HMI ⊢
  clear hn hrs
  go_enter Try.func33, Try.ntmps33
  go_upto_region 1 with fail
  refine name_world ?_
  intro w2 hw1
  have D5 := Lib.hid (show w2.heap[w.heap.size]? = some (.cells #[.slice A n c] 24 (0, 0)) by rw [hw1]; exact (by repeat (first | (with_reducible assumption) | (exact heap_at _ _ (by simp; done)) | (with_reducible refine heap_old_is _ _ (by (first | omega | (simp; done) | (simp; omega))) ?_) | (with_reducible refine heap_far_is (by (first | omega | (simp; done) | (simp; omega))) ?_))))
  have D6 := Lib.hid (show w2.heap[w.heap.size + 1]? = some (.cells #[.bool false, .int .i64 of1, .int .i64 ot1] rootT (0, 0)) by rw [hw1]; exact (by repeat (first | (with_reducible assumption) | (exact heap_at _ _ (by simp; done)) | (with_reducible refine heap_old_is _ _ (by (first | omega | (simp; done) | (simp; omega))) ?_) | (with_reducible refine heap_far_is (by (first | omega | (simp; done) | (simp; omega))) ?_))))
  have D7 := Lib.hid (show w2.heap[w.heap.size + 2]? = some (.cells #[.bool on2, .int .i64 of2, .int .i64 ot2] rootT (0, 0)) by rw [hw1]; exact (by repeat (first | (with_reducible assumption) | (exact heap_at _ _ (by simp; done)) | (with_reducible refine heap_old_is _ _ (by (first | omega | (simp; done) | (simp; omega))) ?_) | (with_reducible refine heap_far_is (by (first | omega | (simp; done) | (simp; omega))) ?_))))
  have D10 := Lib.hid (show w2.heap[w.heap.size + 3]? = some (.cells zHit hitT (0, 0)) by rw [hw1]; exact (by repeat (first | (with_reducible assumption) | (exact heap_at _ _ (by simp; done)) | (with_reducible refine heap_old_is _ _ (by (first | omega | (simp; done) | (simp; omega))) ?_) | (with_reducible refine heap_far_is (by (first | omega | (simp; done) | (simp; omega))) ?_))))
  have D11 := Lib.hid (show w2.heap[w.heap.size + 4]? = some (.cells zFault faultT (0, 0)) by rw [hw1]; exact (by repeat (first | (with_reducible assumption) | (exact heap_at _ _ (by simp; done)) | (with_reducible refine heap_old_is _ _ (by (first | omega | (simp; done) | (simp; omega))) ?_) | (with_reducible refine heap_far_is (by (first | omega | (simp; done) | (simp; omega))) ?_))))
  have HBD := Lib.hid (show Below w.heap.size w w2 by rw [hw1]; repeat' (first | (with_reducible exact Below.refl _ _) | (with_reducible (refine Below.setCell ?_ ?_ _)) | (with_reducible (refine Below.alloc ?_ ?_ _)) | (with_reducible (refine Below.drew ?_)) | omega | (simp; done) | (simp; omega)))
  have hsd : w.heap.size + 5 ≤ w2.heap.size := by rw [hw1]; simp
  clear hw1
  have x5 := fun j => cell_of_row _ _ j _ _ _ D5.out
  have x6 := fun j => cell_of_row _ _ j _ _ _ D6.out
  have x7 := fun j => cell_of_row _ _ j _ _ _ D7.out
  have xf5 := fun j => frozen_of_row _ _ j _ _ D5.out
  have xf6 := fun j => frozen_of_row _ _ j _ _ D6.out
  have xf7 := fun j => frozen_of_row _ _ j _ _ D7.out
  have hl5 := heap_lt D5.out
  have hl6 := heap_lt D6.out
  have hl7 := heap_lt D7.out
  go_wp2_with fail
  refine Calls.mono (HMI.out _ HBD.out) ?_
  rintro e w3 ⟨R, cr, rfl, ho, hb3⟩
  have hs3 := hb3.size
  try simp at hs3
  have HB3 := Lib.hid hb3
  clear hb3
  have Hho := Lib.hid ho
  clear ho
  have E10 := Lib.hid ((HB3.out.block _ (by omega)).trans D10.out)
  have E11 := Lib.hid ((HB3.out.block _ (by omega)).trans D11.out)
  have HB3D := Lib.hid (below_via HBD.out HB3.out HBD.out.size)
  have hse : w.heap.size + 5 ≤ w3.heap.size := by omega
  clear x5 x6 x7 xf5 xf6 xf7 HMI
 
  go_upto_region 3 with fail
  refine name_world ?_
  intro w4 hw4
  have F10 := Lib.hid (show w4.heap[w.heap.size + 3]? = some (.cells zHit hitT (0, 0)) by rw [hw4]; exact (by repeat (first | (with_reducible assumption) | (with_reducible exact E10.out) | (exact heap_at _ _ (by simp; done)) | (with_reducible refine heap_old_is _ _ (by (first | omega | (simp; done) | (simp; omega))) ?_) | (with_reducible refine heap_far_is (by (first | omega | (simp; done) | (simp; omega))) ?_))))
  have F11 := Lib.hid (show w4.heap[w.heap.size + 4]? = some (.cells zFault faultT (0, 0)) by rw [hw4]; exact (by repeat (first | (with_reducible assumption) | (with_reducible exact E11.out) | (exact heap_at _ _ (by simp; done)) | (with_reducible refine heap_old_is _ _ (by (first | omega | (simp; done) | (simp; omega))) ?_) | (with_reducible refine heap_far_is (by (first | omega | (simp; done) | (simp; omega))) ?_))))
  have FH := Lib.hid (show w4.heap[w3.heap.size]? = some (.cells #[.int .i64 l0, .int .i64 l1, .bool l2, .bool l3, .bool l4, .bool l5, .bool l6, .int .i64 l7, .int .i64 l8] hitT (0, 0)) by rw [hw4]; exact (by repeat (first | (with_reducible assumption) | (exact heap_at _ _ (by simp; done)) | (with_reducible refine heap_old_is _ _ (by (first | omega | (simp; done) | (simp; omega))) ?_) | (with_reducible refine heap_far_is (by (first | omega | (simp; done) | (simp; omega))) ?_))))
  have FF := Lib.hid (show w4.heap[w3.heap.size + 1]? = some (.cells #[.int .i64 m0, .int .i64 m1, .int .i64 m2, .bool m3, .int .i64 m4] faultT (0, 0)) by rw [hw4]; exact (by repeat (first | (with_reducible assumption) | (exact heap_at _ _ (by simp; done)) | (with_reducible refine heap_old_is _ _ (by (first | omega | (simp; done) | (simp; omega))) ?_) | (with_reducible refine heap_far_is (by (first | omega | (simp; done) | (simp; omega))) ?_))))
  have FO := Lib.hid (show Own w4 w2.heap.size intT 1 intCells rd R cr by rw [hw4]; exact (by repeat (first | (with_reducible exact Own.mono Hho.out (by (first | omega | (simp; done) | (simp; omega)))) | (with_reducible refine Own.set_far ?_ (by (first | omega | (simp; done) | (simp; omega))) _) | (with_reducible refine Own.alloc ?_ _) | (with_reducible refine Own.drew ?_))))
  have HRB := Lib.hid (fun p (hp : R = some p) => (Hho.out.block_ hp).2)
  have FB := Lib.hid (show Below w.heap.size w w4 by rw [hw4]; repeat' (first | (with_reducible exact Below.refl _ _) | (with_reducible (refine Below.setCell ?_ ?_ _)) | (with_reducible (refine Below.alloc ?_ ?_ _)) | (with_reducible (refine Below.drew ?_)) | (with_reducible (refine below_via ?_ HB3D.out ?_)) | omega | (simp; done) | (simp; omega)))
  have h4s : w3.heap.size + 2 ≤ w4.heap.size := by rw [hw4]; simp
  clear hw4 E10 E11 Hho HB3
  have e13 := fun j => cell_of_row _ _ j _ _ _ FH.out
  have e14 := fun j => cell_of_row _ _ j _ _ _ FF.out
  have ef13 := fun j => frozen_of_row _ _ j _ _ FH.out
  have ef14 := fun j => frozen_of_row _ _ j _ _ FF.out
  have h13l := heap_lt FH.out
  have h14l := heap_lt FF.out
  unfold offTr at HRS
  dsimp only at HRS
  by_cases hm0 : m0 = 0
  · subst hm0
    obtain rfl : res = _ := HRS.out.symm.trans (by rw [if_pos rfl])
   
    go_wp2_with fail
    refine Calls.mono (HBO.out _ _ (by exact at_flat _ _ _ _ attr_len (by simp) rfl)) ?_
    rintro e w5 ⟨rfl, hb5⟩
    have hs5 := hb5.size
    try simp at hs5
    have HB5 := Lib.hid hb5
    clear hb5
    have G10 := Lib.hid ((HB5.out.block _ (by simp; omega)).trans ((heap_old _ _ (by omega)).trans F10.out))
    have G11 := Lib.hid ((HB5.out.block _ (by simp; omega)).trans ((heap_old _ _ (by omega)).trans F11.out))
    have G13 := Lib.hid ((HB5.out.block _ (by simp; omega)).trans ((heap_old _ _ h13l).trans FH.out))
    have G14 := Lib.hid ((HB5.out.block _ (by simp; omega)).trans ((heap_old _ _ h14l).trans FF.out))
    have SB := Lib.hid (show Below w4.heap.size w4 w5 from (by repeat' (first | (with_reducible exact Below.refl _ _) | (with_reducible (refine Below.setCell ?_ ?_ _)) | (with_reducible (refine Below.alloc ?_ ?_ _)) | (with_reducible (refine Below.drew ?_)) | (with_reducible (refine below_via ?_ HB5.out ?_)) | omega | (simp; done) | (simp; omega))))
    have GO := Lib.hid (FO.out.below SB.out (Nat.le_refl _))
    have GB := Lib.hid (below_via FB.out SB.out FB.out.size)
    clear e13 e14 ef13 ef14
    have e13 := fun j => cell_of_row _ _ j _ _ _ G13.out
    have ef13 := fun j => frozen_of_row _ _ j _ _ G13.out
    have g13l := heap_lt G13.out
   
    go_upto_region 5 with fail
    refine name_world ?_
    intro w6 hw6
    have K10 := Lib.hid (show w6.heap[w.heap.size + 3]? = some (.cells zHit hitT (0, 0)) by rw [hw6]; exact (by repeat (first | (with_reducible exact G10.out) | (with_reducible refine heap_far_is (by (first | (dsimp only; omega) | omega | (simp; done) | (simp; omega))) ?_))))
    have K11 := Lib.hid (show w6.heap[w.heap.size + 4]? = some (.cells zFault faultT (0, 0)) by rw [hw6]; exact (by repeat (first | (with_reducible exact G11.out) | (with_reducible refine heap_far_is (by (first | (dsimp only; omega) | omega | (simp; done) | (simp; omega))) ?_))))
    have K13 := Lib.hid (show w6.heap[w3.heap.size]? = some (.cells #[.int .i64 l0, .int .i64 l1, .bool l2, .bool l3, .bool l4, .bool l5, .bool l6, .int .i64 0, .int .i64 3] hitT (0, 0)) by rw [hw6]; simp [World.setCell, Array.getElem?_modify, G13.out])
    have K14 := Lib.hid (show w6.heap[w3.heap.size + 1]? = some (.cells #[.int .i64 0, .int .i64 m1, .int .i64 m2, .bool m3, .int .i64 m4] faultT (0, 0)) by rw [hw6]; exact (by repeat (first | (with_reducible exact G14.out) | (with_reducible refine heap_far_is (by (first | (dsimp only; omega) | omega | (simp; done) | (simp; omega))) ?_))))
    have KO := Lib.hid (show Own w6 w2.heap.size intT 1 intCells rd R cr from GO.out.keep2 fun p hp => by
      have h := HRB.out p hp
      rw [hw6]
      exact (by repeat (first | (with_reducible exact rfl) | (with_reducible refine heap_far_is (by (first | (dsimp only; omega) | omega | (simp; done) | (simp; omega))) ?_))))
    have KB := Lib.hid (show Below w.heap.size w w6 by rw [hw6]; exact (by repeat' (first | (with_reducible exact GB.out) | (with_reducible refine Below.setCell ?_ ?_ _) | (first | (dsimp only; omega) | omega | (simp; done) | (simp; omega)))))
    have h6s : w5.heap.size ≤ w6.heap.size := by rw [hw6]; simp
    clear hw6 e13 ef13
    have k13l := heap_lt K13.out
    have k14l := heap_lt K14.out
   
    refine wp_region_done (fun d w9 => Put2C (w6) 3 (w.heap.size + 3) (hitT) (#[.int .i64 0, .int .i64 0, .bool false, .bool false, .bool false, .bool false, .bool false, .int .i64 0, .int .i64 0]) (#[.int .i64 l0, .int .i64 l1, .bool l2, .bool l3, .bool l4, .bool l5, .bool l6, .int .i64 0, .int .i64 3]) 4 (w.heap.size + 4) (faultT) (#[.int .i64 0, .int .i64 0, .int .i64 0, .bool false, .int .i64 0]) (#[.int .i64 0, .int .i64 m1, .int .i64 m2, .bool m3, .int .i64 m4]) d w9) (by kernel_rfl) (by kernel_rfl) (put2_start (K10.out) (K11.out)) ?_
    repeat (first
      | (refine wpLex_pass (by rfl) (passes_put2 (by rfl) (by rfl)) ?_; (conv => arg 9; simp only [put_lit, put_lit_none, List.set]))
      | (refine wpLex_put2 (by rfl) (by rfl) (by rfl) ?_
         apply Exists.intro
         refine ⟨?_, ?_⟩
         · intro w' hsz hkw hz1 hz2
           try (replace hz1 := hz1 rfl; have hzc1 := fun j => cell_of_row _ _ j _ _ _ hz1; have hzf1 := fun j => frozen_of_row _ _ j _ _ hz1)
           try (replace hz2 := hz2 rfl; have hzc2 := fun j => cell_of_row _ _ j _ _ _ hz2; have hzf2 := fun j => frozen_of_row _ _ j _ _ hz2)
           have q0_ := (hkw (w3.heap.size) (by omega) (by omega) (by omega)).trans (K13.out); have q0 := fun j => cell_of_row _ _ j _ _ _ q0_; have qf0 := fun j => frozen_of_row _ _ j _ _ q0_; clear q0_
           have q1_ := (hkw (w3.heap.size + 1) (by omega) (by omega) (by omega)).trans (K14.out); have q1 := fun j => cell_of_row _ _ j _ _ _ q1_; have qf1 := fun j => frozen_of_row _ _ j _ _ q1_; clear q1_
           clear hkw
           try clear hz1
           try clear hz2
           go_simp
           first
             | exact ⟨rfl, Below.refl _ _⟩
             | exact Below.refl _ _
         conv => arg 9; simp only [put_lit, put_lit_none, List.set])
      | (refine wpLex_put2a (by rfl) (by rfl) (by rfl) (by omega) undef ?_ ?_
         · intro w' hz
           have hzc := fun j => cell_of_row _ _ j _ _ _ hz
           have hzf := fun j => frozen_of_row _ _ j _ _ hz
           go_simp
           exact ⟨(by repeat' (first | (with_reducible exact Below.refl _ _) | (with_reducible (refine Below.setCell ?_ ?_ _)) | omega | (simp; done))), (fun x hx => by repeat (rw [heap_set_other (by exact hx)])), (by simp [World.setCell, Array.getElem?_modify, hz])⟩
         conv => arg 9; simp only [put_lit, put_lit_none, List.set])
      | (refine wpLex_put2b (by rfl) (by rfl) (by rfl) (by omega) undef ?_ ?_
         · intro w' hz
           have hzc := fun j => cell_of_row _ _ j _ _ _ hz
           have hzf := fun j => frozen_of_row _ _ j _ _ hz
           go_simp
           exact ⟨(by repeat' (first | (with_reducible exact Below.refl _ _) | (with_reducible (refine Below.setCell ?_ ?_ _)) | omega | (simp; done))), (fun x hx => by repeat (rw [heap_set_other (by exact hx)])), (by simp [World.setCell, Array.getElem?_modify, hz])⟩
         conv => arg 9; simp only [put_lit, put_lit_none, List.set]))
    refine wpLex_nil ?_
    intro wt dt hdt hCt
    obtain ⟨hbt, hkt, hxt, hyt⟩ := put2_done hCt (hdt 3 (by decide)) (hdt 4 (by decide))
    clear hCt hdt
    have hst := hbt.size
    have HBt := Lib.hid hbt
    have HKt := Lib.hid hkt
    have HXt := Lib.hid hxt
    have HYt := Lib.hid hyt
    clear hbt hkt hxt hyt
    have e8 := fun j => cell_of_row _ _ j _ _ _ HXt.out
    have e9 := fun j => cell_of_row _ _ j _ _ _ HYt.out
    go_wp2
    refine bodyPost_ret (v := .tuple #[.agg #[.int .i64 l0, .int .i64 l1, .bool l2, .bool l3, .bool l4, .bool l5, .bool l6, .int .i64 0, .int .i64 3], .agg #[.int .i64 0, .int .i64 m1, .int .i64 m2, .bool m3, .int .i64 m4], .slice R rd.length cr]) (by simp [results, Try.results33, go_sem, *]) rfl ⟨R, cr, rfl, ?_, below_via KB.out HBt.out (by omega)⟩
    exact (KO.out.keep fun x hx1 hx2 _ => HKt.out x hx2 (by omega) (by omega)).mono (by omega)
  · have qf : (m0 == 0) = false := by simpa using hm0
    obtain rfl : res = _ := HRS.out.symm.trans (by rw [if_neg hm0])
   
    go_upto_region 5 with fail
    clear e13 e14 ef13 ef14
    refine wp_region_done (fun d w9 => Put2C (w4) 3 (w.heap.size + 3) (hitT) (#[.int .i64 0, .int .i64 0, .bool false, .bool false, .bool false, .bool false, .bool false, .int .i64 0, .int .i64 0]) (#[.int .i64 l0, .int .i64 l1, .bool l2, .bool l3, .bool l4, .bool l5, .bool l6, .int .i64 l7, .int .i64 l8]) 4 (w.heap.size + 4) (faultT) (#[.int .i64 0, .int .i64 0, .int .i64 0, .bool false, .int .i64 0]) (#[.int .i64 m0, .int .i64 m1, .int .i64 m2, .bool m3, .int .i64 m4]) d w9) (by kernel_rfl) (by kernel_rfl) (put2_start (F10.out) (F11.out)) ?_
    repeat (first
      | (refine wpLex_pass (by rfl) (passes_put2 (by rfl) (by rfl)) ?_; (conv => arg 9; simp only [put_lit, put_lit_none, List.set]))
      | (refine wpLex_put2 (by rfl) (by rfl) (by rfl) ?_
         apply Exists.intro
         refine ⟨?_, ?_⟩
         · intro w' hsz hkw hz1 hz2
           try (replace hz1 := hz1 rfl; have hzc1 := fun j => cell_of_row _ _ j _ _ _ hz1; have hzf1 := fun j => frozen_of_row _ _ j _ _ hz1)
           try (replace hz2 := hz2 rfl; have hzc2 := fun j => cell_of_row _ _ j _ _ _ hz2; have hzf2 := fun j => frozen_of_row _ _ j _ _ hz2)
           have q0_ := (hkw (w3.heap.size) (by omega) (by omega) (by omega)).trans (FH.out); have q0 := fun j => cell_of_row _ _ j _ _ _ q0_; have qf0 := fun j => frozen_of_row _ _ j _ _ q0_; clear q0_
           have q1_ := (hkw (w3.heap.size + 1) (by omega) (by omega) (by omega)).trans (FF.out); have q1 := fun j => cell_of_row _ _ j _ _ _ q1_; have qf1 := fun j => frozen_of_row _ _ j _ _ q1_; clear q1_
           clear hkw
           try clear hz1
           try clear hz2
           go_simp
           first
             | exact ⟨rfl, Below.refl _ _⟩
             | exact Below.refl _ _
         conv => arg 9; simp only [put_lit, put_lit_none, List.set])
      | (refine wpLex_put2a (by rfl) (by rfl) (by rfl) (by omega) undef ?_ ?_
         · intro w' hz
           have hzc := fun j => cell_of_row _ _ j _ _ _ hz
           have hzf := fun j => frozen_of_row _ _ j _ _ hz
           go_simp
           exact ⟨(by repeat' (first | (with_reducible exact Below.refl _ _) | (with_reducible (refine Below.setCell ?_ ?_ _)) | omega | (simp; done))), (fun x hx => by repeat (rw [heap_set_other (by exact hx)])), (by simp [World.setCell, Array.getElem?_modify, hz])⟩
         conv => arg 9; simp only [put_lit, put_lit_none, List.set])
      | (refine wpLex_put2b (by rfl) (by rfl) (by rfl) (by omega) undef ?_ ?_
         · intro w' hz
           have hzc := fun j => cell_of_row _ _ j _ _ _ hz
           have hzf := fun j => frozen_of_row _ _ j _ _ hz
           go_simp
           exact ⟨(by repeat' (first | (with_reducible exact Below.refl _ _) | (with_reducible (refine Below.setCell ?_ ?_ _)) | omega | (simp; done))), (fun x hx => by repeat (rw [heap_set_other (by exact hx)])), (by simp [World.setCell, Array.getElem?_modify, hz])⟩
         conv => arg 9; simp only [put_lit, put_lit_none, List.set]))
    refine wpLex_nil ?_
    intro wt dt hdt hCt
    obtain ⟨hbt, hkt, hxt, hyt⟩ := put2_done hCt (hdt 3 (by decide)) (hdt 4 (by decide))
    clear hCt hdt
    have hst := hbt.size
    have HBt := Lib.hid hbt
    have HKt := Lib.hid hkt
    have HXt := Lib.hid hxt
    have HYt := Lib.hid hyt
    clear hbt hkt hxt hyt
    have e8 := fun j => cell_of_row _ _ j _ _ _ HXt.out
    have e9 := fun j => cell_of_row _ _ j _ _ _ HYt.out
    go_wp2
    refine bodyPost_ret (v := .tuple #[.agg #[.int .i64 l0, .int .i64 l1, .bool l2, .bool l3, .bool l4, .bool l5, .bool l6, .int .i64 l7, .int .i64 l8], .agg #[.int .i64 m0, .int .i64 m1, .int .i64 m2, .bool m3, .int .i64 m4], .slice R rd.length cr]) (by simp [results, Try.results33, go_sem, *]) rfl ⟨R, cr, rfl, ?_, below_via FB.out HBt.out (by omega)⟩
    exact (FO.out.keep fun x hx1 hx2 _ => HKt.out x hx2 (by omega) (by omega)).mono (by omega)

end Go.Proofs.Ytddbndmbcdeggaa
