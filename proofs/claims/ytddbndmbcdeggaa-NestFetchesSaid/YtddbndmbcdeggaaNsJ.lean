/-
  Where a page is, by both stages, where stage 1 is on: the page's answer. Conditions: what is asked may be.
-/
import Derived.Test.YtddbndmbcdeggaaNsI
namespace Go.Proofs.Ytddbndmbcdeggaa
open Go Go.RowKit

theorem tabOk_of {n : Nat} {k : Nat} {page : Int} (hm : memOk n = true) (hk : k ≤ 3) (hp : numOk page 4095 = true) : tabOk n 1 k page = true := by
  unfold tabOk placeOk
  rw [hm, hp]
  simp
  omega
theorem num_mid {x : Int} (h0 : 0 ≤ x) (h1 : x ≤ 4095) : numOk x 4095 = true := by
  unfold numOk
  simp
  omega

theorem OwnF.stab {T : TypeId} {B : Nat} {rd : List Int} {R : Option Addr} {c : Nat} (hne : intT ≠ T) : Stab T (OwnF B rd R c) := fun _ _ _ _ _ h hg hk _ => Own.stab h hg hne hk
/-- Variables that are there, a descriptor that is read and a row that stays. -/
def oldxPs (B : Nat) (g1 g2 : Nat) (z1 z2 hc fc : Array Value) (es : List Value) (rd : List Int) (tc tm ts tl : Tmp) (ic im xs s1 s2 il : Nat) (g3 : Nat) (dc : Array Value) (B3 : Nat) (rd3 : List Int) (R3 : Option Addr) (c3 : Nat) : List Gp :=
  [⟨some ic, none, some tc, QV hc fc es, QF B hc fc es rd⟩, ⟨some im, none, some tm, QV hc fc es, QF B hc fc es rd⟩, ⟨some xs, none, some ts, NoW, SlF B rd⟩, ⟨none, some s1, none, NoW, BlkG g1 hitT z1⟩, ⟨none, some s2, none, NoW, BlkG g2 faultT z2⟩,
    ⟨some s1, none, none, NoW, BlkG g1 hitT hc⟩, ⟨some s2, none, none, NoW, BlkG g2 faultT fc⟩, ⟨some il, none, some tl, NoW, SlF B rd⟩, ⟨none, none, none, NoW, BlkG g3 descT dc⟩, ⟨none, none, none, NoW, OwnF B3 rd3 R3 c3⟩]
section
variable {B g1 g2 g3 B3 c3 : Nat} {z1 z2 hc fc dc : Array Value} {es : List Value} {rd rd3 : List Int} {R3 : Option Addr} {tc tm ts tl : Tmp} {ic im xs s1 s2 il : Nat}
theorem stays_oldx : StaysG (oldxPs B g1 g2 z1 z2 hc fc es rd tc tm ts tl ic im xs s1 s2 il g3 dc B3 rd3 R3 c3) :=
  staysG_cons (fun _ _ _ h hb => QF.keep (hc := hc) (fc := fc) (es := es) (rd := rd) (B := B) h hb) (staysG_cons (fun _ _ _ h hb => QF.keep (hc := hc) (fc := fc) (es := es) (rd := rd) (B := B) h hb) (staysG_cons (fun _ _ _ h hb => SlF.keep (rd := rd) (B := B) h hb) (staysG_cons (fun _ _ _ h hb => BlkG.keep (v := undef) h hb) (staysG_cons (fun _ _ _ h hb => BlkG.keep (v := undef) h hb)
    (staysG_cons (fun _ _ _ h hb => BlkG.keep (v := undef) h hb) (staysG_cons (fun _ _ _ h hb => BlkG.keep (v := undef) h hb) (staysG_cons (fun _ _ _ h hb => SlF.keep (rd := rd) (B := B) h hb) (staysG_cons (fun _ _ _ h hb => BlkG.keep (v := undef) h hb) (staysG_cons (fun _ _ _ h hb => Own.below h hb (Nat.le_refl _)) staysG_nil)))))))))
theorem stab_oldx1 : StabAll hitT s1 5 (oldxPs B g1 g2 z1 z2 hc fc es rd tc tm ts tl ic im xs s1 s2 il g3 dc B3 rd3 R3 c3) :=
  stabAll_of (stabFrom_cons (.inr (.inr (QF.stab (hc := hc) (fc := fc) (es := es) (rd := rd) (B := B) (by decide)))) (stabFrom_cons (.inr (.inr (QF.stab (hc := hc) (fc := fc) (es := es) (rd := rd) (B := B) (by decide)))) (stabFrom_cons (.inr (.inr (SlF.stab (by decide)))) (stabFrom_cons (.inr (.inl rfl)) (stabFrom_cons (.inr (.inr (BlkG.stab (by decide))))
    (stabFrom_cons (.inl rfl) (stabFrom_cons (.inr (.inr (BlkG.stab (by decide)))) (stabFrom_cons (.inr (.inr (SlF.stab (by decide)))) (stabFrom_cons (.inr (.inr (BlkG.stab (by decide)))) (stabFrom_cons (.inr (.inr (OwnF.stab (by decide)))) stabFrom_nil))))))))))
theorem stab_oldx2 : StabAll faultT s2 6 (oldxPs B g1 g2 z1 z2 hc fc es rd tc tm ts tl ic im xs s1 s2 il g3 dc B3 rd3 R3 c3) :=
  stabAll_of (stabFrom_cons (.inr (.inr (QF.stab (hc := hc) (fc := fc) (es := es) (rd := rd) (B := B) (by decide)))) (stabFrom_cons (.inr (.inr (QF.stab (hc := hc) (fc := fc) (es := es) (rd := rd) (B := B) (by decide)))) (stabFrom_cons (.inr (.inr (SlF.stab (by decide)))) (stabFrom_cons (.inr (.inr (BlkG.stab (by decide)))) (stabFrom_cons (.inr (.inl rfl))
    (stabFrom_cons (.inr (.inr (BlkG.stab (by decide)))) (stabFrom_cons (.inl rfl) (stabFrom_cons (.inr (.inr (SlF.stab (by decide)))) (stabFrom_cons (.inr (.inr (BlkG.stab (by decide)))) (stabFrom_cons (.inr (.inr (OwnF.stab (by decide)))) stabFrom_nil))))))))))
theorem start_oldx {W : World} (h1 : W.heap[g1]? = some (.cells z1 hitT (0, 0))) (h2 : W.heap[g2]? = some (.cells z2 faultT (0, 0))) (h3 : W.heap[g3]? = some (.cells dc descT (0, 0))) (h4 : Own W B3 intT 1 intCells rd3 R3 c3) : ∀ p ∈ oldxPs B g1 g2 z1 z2 hc fc es rd tc tm ts tl ic im xs s1 s2 il g3 dc B3 rd3 R3 c3, p.on = none → p.slot = none ∧ p.V undef ∧ p.F undef W.drew := by
  intro p hp hn
  simp only [oldxPs, List.mem_cons, List.not_mem_nil, or_false] at hp
  rcases hp with rfl | rfl | rfl | rfl | rfl | rfl | rfl | rfl | rfl | rfl
  all_goals first | exact ⟨rfl, trivial, h1⟩ | exact ⟨rfl, trivial, h2⟩ | exact ⟨rfl, trivial, h3⟩ | exact ⟨rfl, trivial, h4⟩ | (cases hn; done)
end
theorem tabRes_fits {ws : List Int} {stage level frame page : Int} (h2 : (tabRes ws stage level frame page).kind = 2) (h1 : level ≤ 3) : 0 ≤ (tabRes ws stage level frame page).frame + page % coversOf level ∧ (tabRes ws stage level frame page).frame + page % coversOf level ≤ 4095 := by
  unfold tabRes at *
  split
  · next h =>
    rw [if_pos h] at h2
    split
    · next h3 =>
      rw [if_pos h3] at h2
      exact ofDe_fits h2 h1
    · next h3 =>
      rw [if_neg h3] at h2
      exact absurd h2 (by decide)
  · next h =>
    rw [if_neg h] at h2
    exact absurd h2 (by decide)

set_option maxRecDepth 100000 in
set_option maxHeartbeats 16000000 in
theorem rTrans_on (A : Option Addr) (c : Nat) (ws : List Int) (one two : Rt) (page acc : Int) (w : World) (hA : MeAt w A c ws) (hok : transOk ws.length one two page acc = true) (hon : one.on = true) :
    Calls Try.prog 33 #[.agg #[.slice A ws.length c], .agg one.cells.toArray, .agg two.cells.toArray, .int .i64 page, .int .i64 acc] w
      (WPost w (transOf ws one two page acc).1.cells.toArray (transOf ws one two page acc).2.1.cells.toArray [] (transOf ws one two page acc).2.2) := by
  have HA := Lib.hid hA
  obtain ⟨ha, hm, h1f, h2f, hpg⟩ := transOk_parts hok
  have HM := Lib.hid hm
  have HPG := Lib.hid hpg
  have hlen := memOk_len hm
  have HAC := Lib.hid ha
  have HMI := Lib.hid (fun (tb ac : Int) (h1 : accOk ac = true) (h2 : numOk tb 4095 = true) W (hb : Below w.heap.size w W) => by
    have hmok := midOk_of h1 hm h2f h2
    have h := rMid_any A c ws two tb ac W (hA.below hb) hmok
    rw [← midRes_of hmok] at h
    exact h)
  have HIN := Lib.hid (fun (tb ac : Int) (h : (midRes ws two tb ac).2.1.kind = 0) => midRes_in ws two tb ac (by omega) h)
  have HML := Lib.hid (fun tb ac => midRes_len ws two tb ac)
  have HTB := Lib.hid (fun (k : Nat) (fr : Int) (hk : k ≤ 3) (hf : numOk fr ((ws.length : Int) / 8 - 1) = true) W (hb : Below w.heap.size w W) => rTable_w A c ws 1 k fr page W (hA.below hb) (tabOk_of hm hk hpg) hf)
  have hres : transOf ws one two page acc = transA ws two page acc 4 0 one.frame [] := by unfold transOf; rw [hon, if_pos rfl]
  rw [hres]
  obtain ⟨res, hrs⟩ : ∃ x, transA ws two page acc 4 0 one.frame [] = x := ⟨_, rfl⟩
  rw [hrs]
  have HRES := Lib.hid hrs
  have hpp : 0 ≤ page ∧ page ≤ 4095 := by
    unfold numOk at hpg
    simp only [Bool.and_eq_true, decide_eq_true_eq] at hpg
    exact hpg
  obtain ⟨hp0, hp1⟩ := hpp
  have H1F := Lib.hid h1f
  clear hA hok ha hm h1f h2f hpg hres hrs
  obtain ⟨j0, hi0, hz0, hz1, hz2⟩ := info_parts int_info
  have HI0 := Lib.hid hi0
  have HZ0 := Lib.hid hz0
  have HZ1 := Lib.hid hz1
  have HZ2 := Lib.hid hz2
  clear hi0 hz0 hz1 hz2
  obtain ⟨on1, of1, ot1⟩ := one
  dsimp only at hon
  subst hon
  dsimp only at HRES H1F
  obtain ⟨n, hn⟩ : ∃ n, ws.length = n := ⟨_, rfl⟩
  have HN := Lib.hid hn
  rw [hn] at HMI HTB HIN ⊢
  clear hn hlen
  obtain ⟨tc, htc⟩ : ∃ x : List Value, two.cells = x := ⟨_, rfl⟩
  have HTC := Lib.hid htc
  clear htc
  dsimp only [Rt.cells] at HMI ⊢
  unfold WPost at HMI
  go_enter Try.func33, Try.ntmps33
  go_wp2_with fail
  go_loopg [16, 17, 18] 4 (fun gg v16 v17 v18 wr => ∃ (k : Nat) (tb : Int) (rd : List Int) (R : Option Addr) (cr : Nat), k ≤ 3 ∧ gg = 4 - k ∧ v18 = .int .i64 k ∧ v17 = .int .i64 tb ∧ v16 = .slice R rd.length cr ∧ numOk tb 4095 = true ∧ transA ws two page acc (3 - k + 1) k tb rd = res ∧ rd.length ≤ 5 * k ∧
    Own wr (w.heap.size + 5) intT 1 intCells rd R cr ∧ wr.heap[w.heap.size]? = some (.cells #[.slice A n c] 24 (0, 0)) ∧ wr.heap[w.heap.size + 2]? = some (.cells #[.bool two.on, .int .i64 two.frame, .int .i64 two.tag] rootT (0, 0)) ∧ wr.heap[w.heap.size + 3]? = some (.cells zHit hitT (0, 0)) ∧ wr.heap[w.heap.size + 4]? = some (.cells zFault faultT (0, 0)) ∧ Below w.heap.size w wr)
  case atStart => exact ⟨0, of1, [], none, 0, by omega, rfl, rfl, rfl, rfl, H1F.out, HRES.out, Nat.le_refl _, World.ownsRow_nil _ _ _ _, (by repeat (first | (with_reducible assumption) | (exact heap_at _ _ (by simp; done)) | (with_reducible refine heap_old_is _ _ (by (first | omega | (simp; done) | (simp; omega))) ?_) | (with_reducible refine heap_far_is (by (first | omega | (simp; done) | (simp; omega))) ?_))), (by repeat (first | (with_reducible assumption) | (exact heap_at _ _ (by simp; done)) | (with_reducible refine heap_old_is _ _ (by (first | omega | (simp; done) | (simp; omega))) ?_) | (with_reducible refine heap_far_is (by (first | omega | (simp; done) | (simp; omega))) ?_))), (by repeat (first | (with_reducible assumption) | (exact heap_at _ _ (by simp; done)) | (with_reducible refine heap_old_is _ _ (by (first | omega | (simp; done) | (simp; omega))) ?_) | (with_reducible refine heap_far_is (by (first | omega | (simp; done) | (simp; omega))) ?_))), (by repeat (first | (with_reducible assumption) | (exact heap_at _ _ (by simp; done)) | (with_reducible refine heap_old_is _ _ (by (first | omega | (simp; done) | (simp; omega))) ?_) | (with_reducible refine heap_far_is (by (first | omega | (simp; done) | (simp; omega))) ?_))), (by repeat' (first | (with_reducible exact Below.refl _ _) | (with_reducible (refine Below.setCell ?_ ?_ _)) | (with_reducible (refine Below.alloc ?_ ?_ _)) | (with_reducible (refine Below.drew ?_)) | omega | (simp; done) | (simp; omega)))⟩
  case round =>
    obtain ⟨k, tb, rd, R, cr, hk, hgk, rfl, rfl, rfl, htb, hrs, hrl, hown, hx5, hx7, hx10, hx11, hbw⟩ := hrel
    have HGK := Lib.hid hgk
    have HRS := Lib.hid hrs
    have HTBK := Lib.hid htb
    have HO := Lib.hid hown
    have HR := Lib.hid (fun p (hp : R = some p) => hown.block_ hp)
    have X5 := Lib.hid hx5
    have X7 := Lib.hid hx7
    have X10 := Lib.hid hx10
    have X11 := Lib.hid hx11
    have HBW := Lib.hid hbw
    have hsw := hbw.size
    have hl11 := heap_lt hx11
    have HM0 := Lib.hid (HMI.out tb 0 (by rfl) htb wr hbw)
    have hml := HML.out tb 0
    have HIN0 := Lib.hid (HIN.out tb 0)
    have hrs2 := HRS.out
    unfold transA at hrs2
    obtain ⟨mr, hmr⟩ : ∃ x, midRes ws two tb 0 = x := ⟨_, rfl⟩
    rw [hmr] at HM0 hml hrs2 HIN0
    clear hgk hrs htb hown hx5 hx7 hx10 hx11 hbw hmr HRS
    obtain ⟨⟨l0, l1, l2, l3, l4, l5, l6, l7, l8⟩, ⟨m0, m1, m2, m3, m4⟩, rm⟩ := mr
    have HRS := Lib.hid hrs2
    clear hrs2
    have hki : (k : Int) < 4 := by omega
    dsimp only [Ht.cells, Ft.cells] at HM0 hml HIN0
    obtain ⟨rd2, hrd2⟩ : ∃ x, x = rd ++ rm := ⟨_, rfl⟩
    have hrd2l : rd2.length ≤ 5 * k + 4 := by rw [hrd2, List.length_append]; omega
    have HRD := Lib.hid hrd2
    clear hrd2
    obtain ⟨wo, rfl⟩ : ∃ wo : World, wo = wr := ⟨_, rfl⟩
    have x5 := fun j => cell_of_row _ _ j _ _ _ X5.out
    have x7 := fun j => cell_of_row _ _ j _ _ _ X7.out
    have xf5 := fun j => frozen_of_row _ _ j _ _ X5.out
    have xf7 := fun j => frozen_of_row _ _ j _ _ X7.out
    have hl5 := heap_lt X5.out
    have hl7 := heap_lt X7.out
   
    go_wp2_with fail
    refine Calls.mono (HM0.out) ?_
    rintro e w2 ⟨R2, cr2, rfl, ho2, hb2⟩
    have hs2 := hb2.size
    try simp at hs2
    have HB2 := Lib.hid hb2
    clear hb2
    have Hho2 := Lib.hid ho2
    clear ho2
   
    have E5 := Lib.hid ((HB2.out.block _ (by omega)).trans X5.out)
    have E7 := Lib.hid ((HB2.out.block _ (by omega)).trans X7.out)
    have E10 := Lib.hid ((HB2.out.block _ (by omega)).trans X10.out)
    have E11 := Lib.hid ((HB2.out.block _ hl11).trans X11.out)
    have EO := Lib.hid (HO.out.below HB2.out (Nat.le_refl _))
    have EB := Lib.hid (below_via HBW.out HB2.out HBW.out.size)
    have hs2 : wo.heap.size ≤ w2.heap.size := by omega
    clear x5 x7 xf5 xf7 X5 X7 X10 X11 HO HM0
    go_upto_region 12 with fail
    refine name_world ?_
    intro w3 hw3
    have F5 := Lib.hid (show w3.heap[w.heap.size]? = some (.cells #[.slice A n c] 24 (0, 0)) by rw [hw3]; exact (by repeat (first | (with_reducible assumption) | (with_reducible exact E5.out) | (exact heap_at _ _ (by simp; done)) | (with_reducible refine heap_old_is _ _ (by (first | omega | (simp; done) | (simp; omega))) ?_) | (with_reducible refine heap_far_is (by (first | omega | (simp; done) | (simp; omega))) ?_))))
    have F7 := Lib.hid (show w3.heap[w.heap.size + 2]? = some (.cells #[.bool two.on, .int .i64 two.frame, .int .i64 two.tag] rootT (0, 0)) by rw [hw3]; exact (by repeat (first | (with_reducible assumption) | (with_reducible exact E7.out) | (exact heap_at _ _ (by simp; done)) | (with_reducible refine heap_old_is _ _ (by (first | omega | (simp; done) | (simp; omega))) ?_) | (with_reducible refine heap_far_is (by (first | omega | (simp; done) | (simp; omega))) ?_))))
    have F10 := Lib.hid (show w3.heap[w.heap.size + 3]? = some (.cells zHit hitT (0, 0)) by rw [hw3]; exact (by repeat (first | (with_reducible assumption) | (with_reducible exact E10.out) | (exact heap_at _ _ (by simp; done)) | (with_reducible refine heap_old_is _ _ (by (first | omega | (simp; done) | (simp; omega))) ?_) | (with_reducible refine heap_far_is (by (first | omega | (simp; done) | (simp; omega))) ?_))))
    have F11 := Lib.hid (show w3.heap[w.heap.size + 4]? = some (.cells zFault faultT (0, 0)) by rw [hw3]; exact (by repeat (first | (with_reducible assumption) | (with_reducible exact E11.out) | (exact heap_at _ _ (by simp; done)) | (with_reducible refine heap_old_is _ _ (by (first | omega | (simp; done) | (simp; omega))) ?_) | (with_reducible refine heap_far_is (by (first | omega | (simp; done) | (simp; omega))) ?_))))
    have FH := Lib.hid (show w3.heap[w2.heap.size]? = some (.cells #[.int .i64 l0, .int .i64 l1, .bool l2, .bool l3, .bool l4, .bool l5, .bool l6, .int .i64 l7, .int .i64 l8] hitT (0, 0)) by rw [hw3]; exact (by repeat (first | (with_reducible assumption) | (exact heap_at _ _ (by simp; done)) | (with_reducible refine heap_old_is _ _ (by (first | omega | (simp; done) | (simp; omega))) ?_) | (with_reducible refine heap_far_is (by (first | omega | (simp; done) | (simp; omega))) ?_))))
    have FF := Lib.hid (show w3.heap[w2.heap.size + 1]? = some (.cells #[.int .i64 m0, .int .i64 m1, .int .i64 m2, .bool m3, .int .i64 m4] faultT (0, 0)) by rw [hw3]; exact (by repeat (first | (with_reducible assumption) | (exact heap_at _ _ (by simp; done)) | (with_reducible refine heap_old_is _ _ (by (first | omega | (simp; done) | (simp; omega))) ?_) | (with_reducible refine heap_far_is (by (first | omega | (simp; done) | (simp; omega))) ?_))))
    have FO := Lib.hid (show Own w3 (w.heap.size + 5) intT 1 intCells rd R cr by rw [hw3]; exact (by repeat (first | (with_reducible exact Own.mono EO.out (by (first | omega | (simp; done) | (simp; omega)))) | (with_reducible refine Own.set_far ?_ (by (first | omega | (simp; done) | (simp; omega))) _) | (with_reducible refine Own.alloc ?_ _) | (with_reducible refine Own.drew ?_))))
    have FM := Lib.hid (show Own w3 wo.heap.size intT 1 intCells rm R2 cr2 by rw [hw3]; exact (by repeat (first | (with_reducible exact Own.mono Hho2.out (by (first | omega | (simp; done) | (simp; omega)))) | (with_reducible refine Own.set_far ?_ (by (first | omega | (simp; done) | (simp; omega))) _) | (with_reducible refine Own.alloc ?_ _) | (with_reducible refine Own.drew ?_))))
    have FB := Lib.hid (show Below w.heap.size w w3 by rw [hw3]; repeat' (first | (with_reducible exact Below.refl _ _) | (with_reducible (refine Below.setCell ?_ ?_ _)) | (with_reducible (refine Below.alloc ?_ ?_ _)) | (with_reducible (refine Below.drew ?_)) | (with_reducible (refine below_via ?_ EB.out ?_)) | omega | (simp; done) | (simp; omega)))
    have h3s : w2.heap.size + 2 ≤ w3.heap.size := by rw [hw3]; simp
    clear hw3 E5 E7 E10 E11 EO EB Hho2
    have hrmu : rm.length ≤ 4 := hml
   
    go_upto_region 13 with (at_builtin; refine wpList_many rfl (.tmp 61) (.tmp 62) _ rfl (w.heap.size + 5) wo.heap.size intT j0 _ 1 8 Try.underlying25 HI0.out HZ0.out HZ1.out HZ2.out rfl (by omega) int_ones rd rd2 rm HRD.out R cr rfl FO.out R2 cr2 rfl FM.out (by simp only [maxLen]; omega) (by omega) (by omega) ?_; intro R5 c5 w5 ho5 hb5 hk5; have HO5 := Lib.hid ho5; have HK5 := Lib.hid hk5; have HB5 := Lib.hid hb5; have hs5 := hb5.size; clear ho5 hk5 hb5)
   
    have HNR := Lib.hid (fun b (hb : wo.heap.size ≤ b) (hbl : b < w3.heap.size) => HK5.out b hbl (fun p hp => by have := (HR.out p hp).2; omega))
    have G5 := Lib.hid ((HB5.out.block _ (by omega)).trans F5.out)
    have G7 := Lib.hid ((HB5.out.block _ (by omega)).trans F7.out)
    have G10 := Lib.hid ((HB5.out.block _ (by omega)).trans F10.out)
    have G11 := Lib.hid ((HB5.out.block _ (by omega)).trans F11.out)
    have GH := Lib.hid ((HNR.out _ hs2 (by omega)).trans FH.out)
    have GF := Lib.hid ((HNR.out _ (by omega) (by omega)).trans FF.out)
    have GB := Lib.hid (below_via FB.out HB5.out (by omega))
    clear HNR HK5 F5 F7 F10 F11 FH FF FO FM FB
    have y19 := fun j => cell_of_row _ _ j _ _ _ GH.out
    have y20 := fun j => cell_of_row _ _ j _ _ _ GF.out
    have yf19 := fun j => frozen_of_row _ _ j _ _ GH.out
    have yf20 := fun j => frozen_of_row _ _ j _ _ GF.out
    have h19l := heap_lt GH.out
    have h20l := heap_lt GF.out
    have HR5 := Lib.hid (fun p (hp : R5 = some p) => (HO5.out.block_ hp))
    have hk5n := h3s
    by_cases hm0 : m0 = 0
    · subst hm0
      have hin := HIN0.out rfl
      have HIN1 := Lib.hid hin
      have hr3 := HRS.out
      rw [if_pos rfl, ← HRD.out] at hr3
      try dsimp only at hr3
      obtain ⟨rd3, hrd3⟩ : ∃ x, x = rd2 ++ [l0] := ⟨_, rfl⟩
      have hrd3l : rd3.length ≤ 5 * k + 5 := by rw [hrd3, List.length_append]; simp; omega
      have HRD3 := Lib.hid hrd3
      rw [← hrd3] at hr3
      have HR3 := Lib.hid hr3
      clear hr3 hrd3 HRS hin HIN0
      have HT := Lib.hid (fun W hb => HTB.out k l0 hk HIN1.out W hb)
      have htk := tabRes_kind ws 1 k l0 page
     
      go_upto_region 17 with (at_builtin; refine wpList_one rfl (.tmp 71) (.tmp 74) _ rfl (w.heap.size + 5) intT j0 _ 1 8 Try.underlying25 HI0.out HZ0.out HZ1.out HZ2.out rfl (by omega) int_len int_ones rd2 rd3 l0 HRD3.out R5 c5 rfl (HO5.out.alloc _) _ rfl (heap_new _ _) (by simp only [maxLen]; omega) (by omega) (by simp; omega) ?_; intro R6 c6 w6 ho6 hb6 hk6; have HO6 := Lib.hid ho6; have HB6 := Lib.hid hb6; have HK6 := Lib.hid hk6; have hs6 := hb6.size; clear ho6 hk6 hb6; (try simp at hs6))
     
      have HNR := Lib.hid (fun b (hb : b < w5.heap.size) (hne : ∀ p : Addr, R5 = some p → p.block ≠ b) => (HK6.out b (by simp; omega) hne).trans (heap_old _ _ hb))
      have Q5 := Lib.hid ((HB6.out.block _ (by omega)).trans ((heap_old _ _ (by omega)).trans G5.out))
      have Q7 := Lib.hid ((HB6.out.block _ (by omega)).trans ((heap_old _ _ (by omega)).trans G7.out))
      have Q10 := Lib.hid ((HB6.out.block _ (by omega)).trans ((heap_old _ _ (by omega)).trans G10.out))
      have Q11 := Lib.hid ((HB6.out.block _ (by omega)).trans ((heap_old _ _ (by omega)).trans G11.out))
      have QH := Lib.hid ((HNR.out _ h19l (fun p hp => Own.blk_off HO5.out GH.out (by decide) p hp)).trans GH.out)
      have QF := Lib.hid ((HNR.out _ h20l (fun p hp => Own.blk_off HO5.out GF.out (by decide) p hp)).trans GF.out)
      have QB := Lib.hid (below_via (GB.out.alloc (by omega) (.cells #[.int .i64 l0] intT)) HB6.out (by omega))
      have hs6b : w5.heap.size ≤ w6.heap.size := by omega
      clear HNR HK6 HB6 G5 G7 G10 G11 GH GF GB y19 y20 yf19 yf20 HO5 HR5
      have q5 := fun j => cell_of_row _ _ j _ _ _ Q5.out
      have q19 := fun j => cell_of_row _ _ j _ _ _ QH.out
      have qf5 := fun j => frozen_of_row _ _ j _ _ Q5.out
      have qf19 := fun j => frozen_of_row _ _ j _ _ QH.out
      have hl5' := heap_lt Q5.out
      have h19l' := heap_lt QH.out
      have hl11' := heap_lt Q11.out
      have h20l' := heap_lt QF.out
      obtain ⟨d, hd⟩ : ∃ x, tabRes ws 1 k l0 page = x := ⟨_, rfl⟩
      have hr4 := HR3.out
      have hfit : d.kind = 2 → 0 ≤ d.frame + page % coversOf k ∧ d.frame + page % coversOf k ≤ 4095 := fun h2 => by
        rw [← hd] at h2 ⊢
        exact tabRes_fits h2 (by omega)
      rw [hd] at hr4 HT htk
      have HFIT := Lib.hid hfit
      have HR4 := Lib.hid hr4
      clear hd hr4 HR3 hfit
      obtain ⟨dk, df, dr, dw, dx, daf, dng, dso, dno⟩ := d
      unfold RofPost deV at HT
      dsimp only [De.cells] at HT htk
      obtain ⟨hk012, hk1, hdf0, hdf1⟩ := htk
      go_wp2_with fail
      refine Calls.mono (HT.out _ QB.out) ?_
      rintro e w7 ⟨rfl, hb7⟩
      have hs7 := hb7.size
      try simp at hs7
      have HB7 := Lib.hid hb7
      clear hb7
     
      have S5 := Lib.hid ((HB7.out.block _ hl5').trans Q5.out)
      have S7 := Lib.hid ((HB7.out.block _ (heap_lt Q7.out)).trans Q7.out)
      have S10 := Lib.hid ((HB7.out.block _ (heap_lt Q10.out)).trans Q10.out)
      have S11 := Lib.hid ((HB7.out.block _ hl11').trans Q11.out)
      have SH := Lib.hid ((HB7.out.block _ h19l').trans QH.out)
      have SF := Lib.hid ((HB7.out.block _ h20l').trans QF.out)
      have SO := Lib.hid (HO6.out.below HB7.out (Nat.le_refl _))
      have SB := Lib.hid (below_via QB.out HB7.out QB.out.size)
      clear q5 q19 qf5 qf19 Q5 Q7 Q10 Q11 QH QF HO6 QB HT
      go_upto_region 18 with fail
      refine name_world ?_
      intro w8 hw8
      have K5 := Lib.hid (show w8.heap[w.heap.size]? = some (.cells #[.slice A n c] 24 (0, 0)) by rw [hw8]; exact (by repeat (first | (with_reducible assumption) | (with_reducible exact S5.out) | (exact heap_at _ _ (by simp; done)) | (with_reducible refine heap_old_is _ _ (by (first | omega | (simp; done) | (simp; omega))) ?_) | (with_reducible refine heap_far_is (by (first | omega | (simp; done) | (simp; omega))) ?_))))
      have K7 := Lib.hid (show w8.heap[w.heap.size + 2]? = some (.cells #[.bool two.on, .int .i64 two.frame, .int .i64 two.tag] rootT (0, 0)) by rw [hw8]; exact (by repeat (first | (with_reducible assumption) | (with_reducible exact S7.out) | (exact heap_at _ _ (by simp; done)) | (with_reducible refine heap_old_is _ _ (by (first | omega | (simp; done) | (simp; omega))) ?_) | (with_reducible refine heap_far_is (by (first | omega | (simp; done) | (simp; omega))) ?_))))
      have K10 := Lib.hid (show w8.heap[w.heap.size + 3]? = some (.cells zHit hitT (0, 0)) by rw [hw8]; exact (by repeat (first | (with_reducible assumption) | (with_reducible exact S10.out) | (exact heap_at _ _ (by simp; done)) | (with_reducible refine heap_old_is _ _ (by (first | omega | (simp; done) | (simp; omega))) ?_) | (with_reducible refine heap_far_is (by (first | omega | (simp; done) | (simp; omega))) ?_))))
      have K11 := Lib.hid (show w8.heap[w.heap.size + 4]? = some (.cells zFault faultT (0, 0)) by rw [hw8]; exact (by repeat (first | (with_reducible assumption) | (with_reducible exact S11.out) | (exact heap_at _ _ (by simp; done)) | (with_reducible refine heap_old_is _ _ (by (first | omega | (simp; done) | (simp; omega))) ?_) | (with_reducible refine heap_far_is (by (first | omega | (simp; done) | (simp; omega))) ?_))))
      have KH := Lib.hid (show w8.heap[w2.heap.size]? = some (.cells #[.int .i64 l0, .int .i64 l1, .bool l2, .bool l3, .bool l4, .bool l5, .bool l6, .int .i64 l7, .int .i64 l8] hitT (0, 0)) by rw [hw8]; exact (by repeat (first | (with_reducible assumption) | (with_reducible exact SH.out) | (exact heap_at _ _ (by simp; done)) | (with_reducible refine heap_old_is _ _ (by (first | omega | (simp; done) | (simp; omega))) ?_) | (with_reducible refine heap_far_is (by (first | omega | (simp; done) | (simp; omega))) ?_))))
      have KF := Lib.hid (show w8.heap[w2.heap.size + 1]? = some (.cells #[.int .i64 0, .int .i64 m1, .int .i64 m2, .bool m3, .int .i64 m4] faultT (0, 0)) by rw [hw8]; exact (by repeat (first | (with_reducible assumption) | (with_reducible exact SF.out) | (exact heap_at _ _ (by simp; done)) | (with_reducible refine heap_old_is _ _ (by (first | omega | (simp; done) | (simp; omega))) ?_) | (with_reducible refine heap_far_is (by (first | omega | (simp; done) | (simp; omega))) ?_))))
      have KD := Lib.hid (show w8.heap[w7.heap.size]? = some (.cells #[.int .i64 dk, .int .i64 df, .bool dr, .bool dw, .bool dx, .bool daf, .bool dng, .int .i64 dso, .int .i64 dno] descT (0, 0)) by rw [hw8]; exact (by repeat (first | (with_reducible assumption) | (exact heap_at _ _ (by simp; done)) | (with_reducible refine heap_old_is _ _ (by (first | omega | (simp; done) | (simp; omega))) ?_) | (with_reducible refine heap_far_is (by (first | omega | (simp; done) | (simp; omega))) ?_))))
      have KO := Lib.hid (show Own w8 (w.heap.size + 5) intT 1 intCells rd3 R6 c6 by rw [hw8]; exact (by repeat (first | (with_reducible exact Own.mono SO.out (by (first | omega | (simp; done) | (simp; omega)))) | (with_reducible refine Own.set_far ?_ (by (first | omega | (simp; done) | (simp; omega))) _) | (with_reducible refine Own.alloc ?_ _) | (with_reducible refine Own.drew ?_))))
      have KB := Lib.hid (show Below w.heap.size w w8 by rw [hw8]; repeat' (first | (with_reducible exact Below.refl _ _) | (with_reducible (refine Below.setCell ?_ ?_ _)) | (with_reducible (refine Below.alloc ?_ ?_ _)) | (with_reducible (refine Below.drew ?_)) | (with_reducible (refine below_via ?_ SB.out ?_)) | omega | (simp; done) | (simp; omega)))
      have h8s : w7.heap.size < w8.heap.size := by rw [hw8]; simp
      have h7s : w2.heap.size + 2 ≤ w7.heap.size := by omega
      clear hw8 S5 S7 S10 S11 SH SF SO SB
      have y22 := fun j => cell_of_row _ _ j _ _ _ KD.out
      have yf22 := fun j => frozen_of_row _ _ j _ _ KD.out
      by_cases hd1 : dk = 1
      · subst hd1
        have hk3 := hk1 rfl
        have hr5 := HR4.out
        rw [if_neg (by omega), if_neg (by omega)] at hr5
        have HRN := Lib.hid (show transA ws two page acc (3 - (k + 1) + 1) ((k + 1 : Nat) : Int) df rd3 = res by rw [show 3 - (k + 1) + 1 = 3 - k by omega]; exact hr5)
        clear hr5
        have HDF := Lib.hid (num_mid hdf0 hdf1)
       
        go_wp2_with fail
        go_roundg (4 - (k + 1))
        case rel => exact ⟨k + 1, df, rd3, R6, c6, by omega, rfl, by go_num, rfl, rfl, HDF.out, HRN.out, by omega, KO.out, K5.out, K7.out, K10.out, K11.out, KB.out⟩
        case measure => have := HGK.out; omega
      · have qd1 : (dk == 1) = false := by simpa using hd1
        by_cases hd0 : dk = 0
        · subst hd0
          have hr5 := HR4.out
          rw [if_neg (by omega), if_pos rfl] at hr5
          obtain rfl : res = _ := hr5.symm
          have e10 := fun j => cell_of_row _ _ j _ _ _ K10.out
          have e11 := fun j => cell_of_row _ _ j _ _ _ K11.out
          have ef10 := fun j => frozen_of_row _ _ j _ _ K10.out
          have ef11 := fun j => frozen_of_row _ _ j _ _ K11.out
          simp only [zHit, zFault] at e10 e11
          have h10l := heap_lt K10.out
          have h11l := heap_lt K11.out
         
          go_wp2
          refine bodyPost_ret (v := .tuple #[.agg noHt.cells.toArray, .agg #[.int .i64 2, .int .i64 1, .int .i64 k, .bool false, .int .i64 page], .slice R6 rd3.length c6]) (by simp [noHt, Ht.cells, results, Try.results33, go_sem, *]) rfl ⟨R6, c6, rfl, ?_, ?_⟩
          · exact Own.mono (base := w.heap.size + 5) (KO.out.keep2 fun p hp => by
              have h1 := (KO.out.block_ hp).1
              exact (by repeat (first | (with_reducible exact rfl) | (with_reducible refine heap_far_is (by (first | (dsimp only; omega) | omega | (simp; done) | (simp; omega))) ?_)))) (by omega)
          · exact (by repeat' (first | (with_reducible exact KB.out) | (with_reducible refine Below.setCell ?_ ?_ _) | (first | (dsimp only; omega) | omega | (simp; done) | (simp; omega))))
        · have hd2 : dk = 2 := by omega
          subst hd2
          have hr5 := HR4.out
          rw [if_pos rfl] at hr5
          have hfit := HFIT.out rfl
          try dsimp only at hfit
          have HFL := Lib.hid (fun W => refFlag_any dr dw dx daf dng dso acc 1 k page W)
          have hfc := flagFt_cells (deHt ⟨2, df, dr, dw, dx, daf, dng, dso, dno⟩) acc 1 k page
          dsimp only [deHt] at hfc
          rw [hfc] at HFL
          clear hfc HR4 HFIT
          unfold leafTr at hr5
          have hff : flagFt ⟨0, 0, dr, dw, dx, daf, dng, dso, 0⟩ acc 1 k page = flagFt (deHt ⟨2, df, dr, dw, dx, daf, dng, dso, dno⟩) acc 1 k page := rfl
          rw [hff] at HFL
          clear hff
          generalize flagFt (deHt ⟨2, df, dr, dw, dx, daf, dng, dso, dno⟩) acc 1 k page = ff at *
          try dsimp only at hr5
          have HCV := Lib.hid (fun W => rcovers_any (k : Int) (by omega) (by omega) W)
          have hcv0 : 0 < coversOf k := covers_pos _
          generalize coversOf (k : Int) = cv at *
          have hcv2 : ¬ cv = 0 := by omega
          have hcv3 : (cv == 0) = false := by simpa using hcv2
          have hmod : page.tmod cv = page % cv := Int.tmod_eq_emod_of_nonneg hp0
          have hm0 : 0 ≤ page % cv := Int.emod_nonneg _ (by omega)
          have hm1 : page % cv ≤ page := emod_le hp0 hcv0
          obtain ⟨pm, hpm⟩ : ∃ x, page % cv = x := ⟨_, rfl⟩
          rw [hpm] at hmod hm0 hm1 hr5 hfit
          clear hpm
          have hw1 : IntKind.i64.wrap pm = pm := IntWalk.i64_in _ (by omega)
          have hw2 : IntKind.i64.wrap (df + pm) = df + pm := IntWalk.i64_in _ (by omega)
          have HM2 := Lib.hid (fun W hb => HMI.out (df + pm) acc HAC.out (num_mid hfit.1 hfit.2) W hb)
          have hml2 := HML.out (df + pm) acc
          generalize midRes ws two (df + pm) acc = mr at *
          unfold leafIn bothHt at hr5
          obtain ⟨⟨a0, a1, a2, a3, a4, a5, a6, a7, a8⟩, ⟨b0, b1, b2, b3, b4⟩, rl⟩ := mr
          obtain ⟨f0, f1, f2, f3, f4⟩ := ff
          dsimp only [Ht.cells, Ft.cells] at HM2 hml2 HFL
          have HR5 := Lib.hid hr5
          clear hr5 HMI HIN HTB HML
         
          go_wp2_with fail
          refine Calls.mono (HFL.out _) ?_
          rintro e w9 ⟨rfl, hb9⟩
          have hs9 := hb9.size
          try simp at hs9
          have HB9 := Lib.hid hb9
          clear hb9
         
          have P5 := Lib.hid ((HB9.out.block _ (by have := heap_lt K11.out; omega)).trans K5.out)
          have P7 := Lib.hid ((HB9.out.block _ (by have := heap_lt K11.out; omega)).trans K7.out)
          have P10 := Lib.hid ((HB9.out.block _ (heap_lt K10.out)).trans K10.out)
          have P11 := Lib.hid ((HB9.out.block _ (heap_lt K11.out)).trans K11.out)
          have PH := Lib.hid ((HB9.out.block _ (heap_lt KH.out)).trans KH.out)
          have PF := Lib.hid ((HB9.out.block _ (heap_lt KF.out)).trans KF.out)
          have PD := Lib.hid ((HB9.out.block _ (heap_lt KD.out)).trans KD.out)
          have PO := Lib.hid (KO.out.below HB9.out (Nat.le_refl _))
          have PB := Lib.hid (below_via KB.out HB9.out KB.out.size)
          clear y22 yf22 K5 K7 K10 K11 KH KF KD KO KB HFL
          have y20 := fun j => cell_of_row _ _ j _ _ _ PF.out
          have yf20 := fun j => frozen_of_row _ _ j _ _ PF.out
          have p20l := heap_lt PF.out
          have hp9 : w7.heap.size < w9.heap.size := by omega
          go_upto_region 23 with fail
          refine name_world ?_
          intro wa hwa
          have A5 := Lib.hid (show wa.heap[w.heap.size]? = some (.cells #[.slice A n c] 24 (0, 0)) by rw [hwa]; exact (by repeat (first | (with_reducible exact P5.out) | (with_reducible refine heap_far_is (by (first | (dsimp only; omega) | omega | (simp; done) | (simp; omega))) ?_))))
          have A7 := Lib.hid (show wa.heap[w.heap.size + 2]? = some (.cells #[.bool two.on, .int .i64 two.frame, .int .i64 two.tag] rootT (0, 0)) by rw [hwa]; exact (by repeat (first | (with_reducible exact P7.out) | (with_reducible refine heap_far_is (by (first | (dsimp only; omega) | omega | (simp; done) | (simp; omega))) ?_))))
          have A10 := Lib.hid (show wa.heap[w.heap.size + 3]? = some (.cells zHit hitT (0, 0)) by rw [hwa]; exact (by repeat (first | (with_reducible exact P10.out) | (with_reducible refine heap_far_is (by (first | (dsimp only; omega) | omega | (simp; done) | (simp; omega))) ?_))))
          have A11 := Lib.hid (show wa.heap[w.heap.size + 4]? = some (.cells zFault faultT (0, 0)) by rw [hwa]; exact (by repeat (first | (with_reducible exact P11.out) | (with_reducible refine heap_far_is (by (first | (dsimp only; omega) | omega | (simp; done) | (simp; omega))) ?_))))
          have AH := Lib.hid (show wa.heap[w2.heap.size]? = some (.cells #[.int .i64 l0, .int .i64 l1, .bool l2, .bool l3, .bool l4, .bool l5, .bool l6, .int .i64 l7, .int .i64 l8] hitT (0, 0)) by rw [hwa]; exact (by repeat (first | (with_reducible exact PH.out) | (with_reducible refine heap_far_is (by (first | (dsimp only; omega) | omega | (simp; done) | (simp; omega))) ?_))))
          have AF := Lib.hid (show wa.heap[w2.heap.size + 1]? = some (.cells #[.int .i64 f0, .int .i64 f1, .int .i64 f2, .bool f3, .int .i64 f4] faultT (0, 0)) by rw [hwa]; simp [World.setCell, Array.getElem?_modify, PF.out])
          have AD := Lib.hid (show wa.heap[w7.heap.size]? = some (.cells #[.int .i64 2, .int .i64 df, .bool dr, .bool dw, .bool dx, .bool daf, .bool dng, .int .i64 dso, .int .i64 dno] descT (0, 0)) by rw [hwa]; exact (by repeat (first | (with_reducible exact PD.out) | (with_reducible refine heap_far_is (by (first | (dsimp only; omega) | omega | (simp; done) | (simp; omega))) ?_))))
          have AO := Lib.hid (show Own wa (w.heap.size + 5) intT 1 intCells rd3 R6 c6 from PO.out.keep2 fun p hp => by
            have h := Own.blk_off PO.out PF.out (by decide) p hp
            rw [hwa]
            exact (by repeat (first | (with_reducible exact rfl) | (with_reducible refine heap_far_is (by (first | (dsimp only; omega) | omega | (simp; done) | (simp; omega))) ?_))))
          have AB := Lib.hid (show Below w.heap.size w wa by rw [hwa]; exact (by repeat' (first | (with_reducible exact PB.out) | (with_reducible refine Below.setCell ?_ ?_ _) | (first | (dsimp only; omega) | omega | (simp; done) | (simp; omega)))))
          have hwas : w9.heap.size ≤ wa.heap.size := by rw [hwa]; simp
          clear hwa y20 yf20 P5 P7 P10 P11 PH PF PD PO PB
          have y20 := fun j => cell_of_row _ _ j _ _ _ AF.out
          have yf20 := fun j => frozen_of_row _ _ j _ _ AF.out
          have a20l := heap_lt AF.out
          by_cases hf0 : f0 = 0
          · subst hf0
            have hr6 := HR5.out
            rw [if_pos rfl] at hr6
            have HR6 := Lib.hid hr6
            clear hr6 HR5
           
            have x5 := fun j => cell_of_row _ _ j _ _ _ A5.out
            have x7 := fun j => cell_of_row _ _ j _ _ _ A7.out
            have xf5 := fun j => frozen_of_row _ _ j _ _ A5.out
            have xf7 := fun j => frozen_of_row _ _ j _ _ A7.out
            have hwl : w.heap.size + 4 < w2.heap.size := by omega
            have hwl0 : w.heap.size < w2.heap.size := by omega
            have hwl2 : w.heap.size + 2 < w2.heap.size := by omega
            have hwl5 := heap_lt A5.out
            have hwl7 := heap_lt A7.out
            go_upto_region 25 with fail
            clear y20 yf20
            refine wp_region_lex [118, 107, 121, 21] (GenC (w2.heap.size) (wa) (oldxPs (wa).heap.size (w2.heap.size) (w2.heap.size + 1) #[.int .i64 l0, .int .i64 l1, .bool l2, .bool l3, .bool l4, .bool l5, .bool l6, .int .i64 l7, .int .i64 l8] #[.int .i64 0, .int .i64 f1, .int .i64 f2, .bool f3, .int .i64 f4] #[.int .i64 a0, .int .i64 a1, .bool a2, .bool a3, .bool a4, .bool a5, .bool a6, .int .i64 a7, .int .i64 a8] #[.int .i64 b0, .int .i64 b1, .int .i64 b2, .bool b3, .int .i64 b4] [] (rl) 118 107 121 21 10 11 14 15 16 17 (w7.heap.size) #[.int .i64 2, .int .i64 df, .bool dr, .bool dw, .bool dx, .bool daf, .bool dng, .int .i64 dso, .int .i64 dno] (w.heap.size + 5) (rd3) (R6) (c6))) (genC_looks (by rfl)) (by kernel_rfl) (by kernel_rfl) (by kernel_rfl) (genC_start _ (start_oldx (AH.out) (AF.out) (AD.out) (AO.out))) ?_
            repeat (first
              | (refine wpLex_genMake 0 _ 118 [] (by omega) stays_oldx rfl (by rfl) (by rfl) (by rfl) (by rfl) (by rfl) (by rfl) (by rfl) (by rfl) ?_ ?_
                 · intro u w' hb hk
                   have hsz := hb.size
                   try simp at hsz
                   have hcw := fun b o (h : b < w2.heap.size) => hb.cell (p := ⟨b, o, none⟩) h
                   have hfw := fun b o (h : b < w2.heap.size) => hb.frozen (p := ⟨b, o, none⟩) h
                   try simp only [putS, List.foldl, put_lit, List.set]
                   go_simp
                   (with_reducible refine Calls.mono (HM2.out _ (AB.out.trans (hb.mono (by omega)))) ?_)
                   rintro e w2 ⟨R, c, rfl, h1, hb2⟩
                   exact ⟨_, rfl, makeOk ⟨_, rfl⟩ ⟨R, c, rfl, h1.mono (by first | exact Nat.le_refl _ | exact hsz | omega)⟩ hb2⟩
                 (conv => arg 9; simp only [put_lit, put_lit_none, List.set]))
              | (refine wpLex_genMake 1 _ 107 [0] (by omega) stays_oldx rfl (by rfl) (by rfl) (by rfl) (by rfl) (by rfl) (by rfl) (by rfl) (by rfl) ?_ ?_
                 · intro u w' hb hk
                   have hsz := hb.size
                   try simp at hsz
                   have hcw := fun b o (h : b < w2.heap.size) => hb.cell (p := ⟨b, o, none⟩) h
                   have hfw := fun b o (h : b < w2.heap.size) => hb.frozen (p := ⟨b, o, none⟩) h
                   try simp only [putS, List.foldl, put_lit, List.set]
                   obtain ⟨R, c, e0, h1⟩ := (hk 0 (by simp) _ rfl).2
                   have e0' : u 118 = .tuple #[.agg #[.int .i64 a0, .int .i64 a1, .bool a2, .bool a3, .bool a4, .bool a5, .bool a6, .int .i64 a7, .int .i64 a8], .agg #[.int .i64 b0, .int .i64 b1, .int .i64 b2, .bool b3, .int .i64 b4], .slice R (rl).length c] := e0
                   rw [e0']
                   go_simp
                   exact makeOk ⟨_, rfl⟩ ⟨R, c, rfl, h1⟩ (Below.refl _ _)
                 (conv => arg 9; simp only [put_lit, put_lit_none, List.set]))
              | (refine wpLex_genMake 2 _ 121 [1] (by omega) stays_oldx rfl (by rfl) (by rfl) (by rfl) (by rfl) (by rfl) (by rfl) (by rfl) (by rfl) ?_ ?_
                 · intro u w' hb hk
                   have hsz := hb.size
                   try simp at hsz
                   have hcw := fun b o (h : b < w2.heap.size) => hb.cell (p := ⟨b, o, none⟩) h
                   have hfw := fun b o (h : b < w2.heap.size) => hb.frozen (p := ⟨b, o, none⟩) h
                   try simp only [putS, List.foldl, put_lit, List.set]
                   obtain ⟨R, c, e0, h1⟩ := (hk 1 (by simp) _ rfl).2
                   have e0' : u 107 = .tuple #[.agg #[.int .i64 a0, .int .i64 a1, .bool a2, .bool a3, .bool a4, .bool a5, .bool a6, .int .i64 a7, .int .i64 a8], .agg #[.int .i64 b0, .int .i64 b1, .int .i64 b2, .bool b3, .int .i64 b4], .slice R (rl).length c] := e0
                   rw [e0']
                   go_simp
                   exact makeOk trivial ⟨R, c, rfl, h1⟩ (Below.refl _ _)
                 (conv => arg 9; simp only [put_lit, put_lit_none, List.set]))
              | (refine wpLex_genUseV [1] (by omega) stays_oldx (by rfl) (by rfl) (by rfl) ?_
                 apply Exists.intro
                 refine ⟨?_, ?_⟩
                 · intro u w' hb hk
                   have hsz := hb.size
                   try simp at hsz
                   have hcw := fun b o (h : b < w2.heap.size) => hb.cell (p := ⟨b, o, none⟩) h
                   have hfw := fun b o (h : b < w2.heap.size) => hb.frozen (p := ⟨b, o, none⟩) h
                   try simp only [putS, List.foldl, put_lit, List.set]
                   obtain ⟨x, e0⟩ := hk 1 (by simp) _ rfl
                   have e0' : u 107 = .tuple #[.agg #[.int .i64 a0, .int .i64 a1, .bool a2, .bool a3, .bool a4, .bool a5, .bool a6, .int .i64 a7, .int .i64 a8], .agg #[.int .i64 b0, .int .i64 b1, .int .i64 b2, .bool b3, .int .i64 b4], x] := e0
                   rw [e0']
                   go_simp
                   exact ⟨rfl, Below.refl _ _⟩
                 (conv => arg 9; simp only [put_lit, put_lit_none, List.set]))
              | (refine wpLex_genMake 7 _ 21 [2] (by omega) stays_oldx rfl (by rfl) (by rfl) (by rfl) (by rfl) (by rfl) (by rfl) (by rfl) (by rfl) ?_ ?_
                 · intro u w' hb hk
                   have hsz := hb.size
                   try simp at hsz
                   have hcw := fun b o (h : b < w2.heap.size) => hb.cell (p := ⟨b, o, none⟩) h
                   have hfw := fun b o (h : b < w2.heap.size) => hb.frozen (p := ⟨b, o, none⟩) h
                   try simp only [putS, List.foldl, put_lit, List.set]
                   obtain ⟨R, c, e0, h1⟩ := (hk 2 (by simp) _ rfl).2
                   have e0' : u 121 = .slice R (rl).length c := e0
                   rw [e0']
                   go_simp
                   exact makeOk trivial ⟨R, c, rfl, h1⟩ (Below.refl _ _)
                 (conv => arg 9; simp only [put_lit, put_lit_none, List.set]))
              | (refine wpLex_genStore hitT 5 _ [3] rfl (by rfl) (by rfl) (by rfl) (by rfl) (by rfl) (by rfl) stab_oldx1 ?_ ?_
                 · intro u w' hb hk
                   have hsz := hb.size
                   try simp at hsz
                   have hcw := fun b o (h : b < w2.heap.size) => hb.cell (p := ⟨b, o, none⟩) h
                   have hfw := fun b o (h : b < w2.heap.size) => hb.frozen (p := ⟨b, o, none⟩) h
                   try simp only [putS, List.foldl, put_lit, List.set]
                   have hz : w'.heap[w2.heap.size]? = some (.cells #[.int .i64 l0, .int .i64 l1, .bool l2, .bool l3, .bool l4, .bool l5, .bool l6, .int .i64 l7, .int .i64 l8] hitT (0, 0)) := (hk 3 (by simp) _ rfl).2
                   have hzc := fun j => cell_of_row _ _ j _ _ _ hz
                   have hzf := fun j => frozen_of_row _ _ j _ _ hz
                   go_simp
                   exact storeOk trivial (blkG_intro (v := undef) (by simp [World.setCell, Array.getElem?_modify, hz])) (by repeat' (first | (with_reducible exact hb) | (with_reducible (refine Below.setCell ?_ ?_ _)) | omega | (simp; done))) (by simp) (w2.heap.size) hz (fun x hx => by repeat (rw [heap_set_other (by exact hx)])))
              | (refine wpLex_genStore faultT 6 _ [4] rfl (by rfl) (by rfl) (by rfl) (by rfl) (by rfl) (by rfl) stab_oldx2 ?_ ?_
                 · intro u w' hb hk
                   have hsz := hb.size
                   try simp at hsz
                   have hcw := fun b o (h : b < w2.heap.size) => hb.cell (p := ⟨b, o, none⟩) h
                   have hfw := fun b o (h : b < w2.heap.size) => hb.frozen (p := ⟨b, o, none⟩) h
                   try simp only [putS, List.foldl, put_lit, List.set]
                   have hz : w'.heap[w2.heap.size + 1]? = some (.cells #[.int .i64 0, .int .i64 f1, .int .i64 f2, .bool f3, .int .i64 f4] faultT (0, 0)) := (hk 4 (by simp) _ rfl).2
                   have hzc := fun j => cell_of_row _ _ j _ _ _ hz
                   have hzf := fun j => frozen_of_row _ _ j _ _ hz
                   go_simp
                   exact storeOk trivial (blkG_intro (v := undef) (by simp [World.setCell, Array.getElem?_modify, hz])) (by repeat' (first | (with_reducible exact hb) | (with_reducible (refine Below.setCell ?_ ?_ _)) | omega | (simp; done))) (by simp) (w2.heap.size + 1) hz (fun x hx => by repeat (rw [heap_set_other (by exact hx)])))
              | (refine wpLex_pass (by rfl) (passes_gen stays_oldx (by rfl)) ?_; (conv => arg 9; simp only [put_lit, put_lit_none, List.set]))
              | (refine wpLex_genUse [8] (by omega) stays_oldx (by rfl) (by rfl) (by rfl) ?_
                 apply Exists.intro
                 refine ⟨?_, ?_⟩
                 · intro u w' hb hk
                   have hcw := fun b o (h : b < w2.heap.size) => hb.cell (p := ⟨b, o, none⟩) h
                   have hfw := fun b o (h : b < w2.heap.size) => hb.frozen (p := ⟨b, o, none⟩) h
                   have hz3 : w'.heap[w7.heap.size]? = some (.cells #[.int .i64 2, .int .i64 df, .bool dr, .bool dw, .bool dx, .bool daf, .bool dng, .int .i64 dso, .int .i64 dno] descT (0, 0)) := (hk 8 (by simp) _ rfl).2
                   have hzc3 := fun j => cell_of_row _ _ j _ _ _ hz3
                   have hzf3 := fun j => frozen_of_row _ _ j _ _ hz3
                   clear hz3 hk
                   try simp only [putS, List.foldl, put_lit, List.set]
                   go_simp
                   first
                     | exact ⟨rfl, Below.refl _ _⟩
                     | exact Below.refl _ _
                     | exact rfl
                     | ((with_reducible refine Calls.mono (HCV.out _) ?_); rintro e w2 ⟨rfl, hb2⟩; first | exact ⟨_, rfl, rfl, hb2⟩ | exact ⟨rfl, hb2⟩)
                 (conv => arg 9; simp only [put_lit, put_lit_none, List.set]))
              | (refine wpLex_genUse [] (by omega) stays_oldx (by rfl) (by rfl) (by rfl) ?_
                 apply Exists.intro
                 refine ⟨?_, ?_⟩
                 · intro u w' hb _
                   have hsz := hb.size
                   try simp at hsz
                   have hcw := fun b o (h : b < w2.heap.size) => hb.cell (p := ⟨b, o, none⟩) h
                   have hfw := fun b o (h : b < w2.heap.size) => hb.frozen (p := ⟨b, o, none⟩) h
                   try simp only [putS, List.foldl, put_lit, List.set]
                   go_simp
                   first
                     | exact ⟨rfl, Below.refl _ _⟩
                     | exact Below.refl _ _
                     | exact rfl
                 (conv => arg 9; simp only [put_lit, put_lit_none, List.set])))
            refine wpLex_nil ?_
            intro wv bv dv hdv hCv hov
            obtain ⟨uv, rfl, hbv, hkv⟩ := genC_end hCv hdv hov
            clear hCv hov hdv dv
            simp only [putS, List.foldl, put_lit, List.set]
            have hsv := hbv.size
            try simp at hsv
            have hxv : wv.heap[w2.heap.size]? = some (.cells #[.int .i64 a0, .int .i64 a1, .bool a2, .bool a3, .bool a4, .bool a5, .bool a6, .int .i64 a7, .int .i64 a8] hitT (0, 0)) := (hkv 5 _ rfl (by rfl) rfl).2
            have hyv : wv.heap[w2.heap.size + 1]? = some (.cells #[.int .i64 b0, .int .i64 b1, .int .i64 b2, .bool b3, .int .i64 b4] faultT (0, 0)) := (hkv 6 _ rfl (by rfl) rfl).2
            obtain ⟨Rv, cv, elv, hrv⟩ := (hkv 7 _ rfl (by rfl) rfl).2
            have elv' : uv 21 = _ := elv
            rw [elv']
            have hx8v : wv.heap[w7.heap.size]? = some (.cells #[.int .i64 2, .int .i64 df, .bool dr, .bool dw, .bool dx, .bool daf, .bool dng, .int .i64 dso, .int .i64 dno] descT (0, 0)) := (hkv 8 _ rfl (by rfl) rfl).2; have hx9v : Own wv (w.heap.size + 5) intT 1 intCells (rd3) (R6) (c6) := (hkv 9 _ rfl (by rfl) rfl).2; clear hkv
            generalize uv 118 = xv118 at *
            generalize uv 107 = xv107 at *
            generalize uv 121 = xv121 at *
            clear elv elv' uv
            have HXv := Lib.hid hxv
            have HYv := Lib.hid hyv
            have HOv := Lib.hid hrv
            clear hxv hyv hrv
            have hcv := fun b o (h : b < w2.heap.size) => hbv.cell (p := ⟨b, o, none⟩) h
            have hfv := fun b o (h : b < w2.heap.size) => hbv.frozen (p := ⟨b, o, none⟩) h
            have HBv := Lib.hid hbv
            clear hbv
           
            have HDv := Lib.hid hx8v
            have HRv := Lib.hid hx9v
            have V10 := Lib.hid ((HBv.out.block _ (by omega)).trans A10.out)
            have V11 := Lib.hid ((HBv.out.block _ (by omega)).trans A11.out)
            have VB := Lib.hid (below_via AB.out HBv.out (by omega))
            clear hx8v hx9v x5 x7 xf5 xf7 A5 A7 A10 A11 AH AF AD AO AB HM2 HCV hcv hfv
            obtain ⟨rd4, hrd4⟩ : ∃ x, x = rd3 ++ rl := ⟨_, rfl⟩
            have hrd4l : rd4.length ≤ 5 * k + 9 := by rw [hrd4, List.length_append]; omega
            have HRD4 := Lib.hid hrd4
            have hr7 := HR6.out
            try dsimp only at hr7
            have hvs := VB.out.size
            have hvl := heap_lt HDv.out
           
            go_upto_region 27 with (at_builtin; refine wpList_many rfl (.tmp 122) (.tmp 123) _ rfl (w.heap.size + 5) wa.heap.size intT j0 _ 1 8 Try.underlying25 HI0.out HZ0.out HZ1.out HZ2.out rfl (by omega) int_ones rd3 rd4 rl HRD4.out R6 c6 rfl HRv.out Rv cv rfl HOv.out (by simp only [maxLen]; omega) (by omega) (by omega) ?_; intro Rw cw ww how hbw hkw; have HOw := Lib.hid how; have HKw := Lib.hid hkw; have HBw := Lib.hid hbw; have hsw2 := hbw.size; clear how hkw hbw)
           
            have Z10 := Lib.hid ((HBw.out.block _ (by omega)).trans V10.out)
            have Z11 := Lib.hid ((HBw.out.block _ (by omega)).trans V11.out)
            have ZX := Lib.hid ((HKw.out _ (heap_lt HXv.out) (fun p hp => Own.blk_off HRv.out HXv.out (by decide) p hp)).trans HXv.out)
            have ZY := Lib.hid ((HKw.out _ (heap_lt HYv.out) (fun p hp => Own.blk_off HRv.out HYv.out (by decide) p hp)).trans HYv.out)
            have ZD := Lib.hid ((HKw.out _ hvl (fun p hp => Own.blk_off HRv.out HDv.out (by decide) p hp)).trans HDv.out)
            have ZB := Lib.hid (below_via VB.out HBw.out (by omega))
            have hzs : wv.heap.size ≤ ww.heap.size := by omega
            clear HKw HBw V10 V11 VB HXv HYv HDv HRv HOv
            have y19 := fun j => cell_of_row _ _ j _ _ _ ZX.out
            have y20 := fun j => cell_of_row _ _ j _ _ _ ZY.out
            have y22 := fun j => cell_of_row _ _ j _ _ _ ZD.out
            have yf19 := fun j => frozen_of_row _ _ j _ _ ZX.out
            have yf20 := fun j => frozen_of_row _ _ j _ _ ZY.out
            have yf22 := fun j => frozen_of_row _ _ j _ _ ZD.out
            have z19l := heap_lt ZX.out
            have z20l := heap_lt ZY.out
            have z22l := heap_lt ZD.out
            by_cases hb0 : b0 = 0
            · subst hb0
              rw [if_pos rfl] at hr7
              try dsimp only at hr7
              obtain ⟨bb, hbb⟩ : ∃ x, bothAt (⟨2, df, dr, dw, dx, daf, dng, dso, dno⟩ : De) (⟨a0, a1, a2, a3, a4, a5, a6, a7, a8⟩ : Ht) = x := ⟨_, rfl⟩
              have HBT := Lib.hid (fun (L : Option Addr) W (hL : At W L 6 Attr.cells [⟨dr, dw, dx, daf, dng, dso⟩, ⟨a2, a3, a4, a5, a6, a7⟩]) => refBoth_any L 2 _ W (by simp) hL)
              rw [show both [⟨dr, dw, dx, daf, dng, dso⟩, ⟨a2, a3, a4, a5, a6, a7⟩] = bb from hbb] at HBT
              rw [hbb] at hr7
              clear hbb
              obtain ⟨c0, c1, c2, c3, c4, c5⟩ := bb
              dsimp only [Attr.cells] at HBT
              try dsimp only at hr7
              rw [← HRD4.out] at hr7
              obtain rfl : res = _ := hr7.symm
             
              go_wp2_with fail
              refine Calls.mono (HBT.out _ _ (by exact at_flat _ _ _ _ attr_len (by simp) rfl)) ?_
              rintro e w9 ⟨rfl, hb9⟩
              have hs9 := hb9.size
              try simp at hs9
              have HB9 := Lib.hid hb9
              clear hb9
             
              have Y10 := Lib.hid ((HB9.out.block _ (by simp; omega)).trans ((heap_old _ _ (by omega)).trans Z10.out))
              have Y11 := Lib.hid ((HB9.out.block _ (by simp; omega)).trans ((heap_old _ _ (by omega)).trans Z11.out))
              have YX := Lib.hid ((HB9.out.block _ (by simp; omega)).trans ((heap_old _ _ z19l).trans ZX.out))
              have YY := Lib.hid ((HB9.out.block _ (by simp; omega)).trans ((heap_old _ _ z20l).trans ZY.out))
              have SB := Lib.hid (show Below ww.heap.size ww w9 from (by repeat' (first | (with_reducible exact Below.refl _ _) | (with_reducible (refine Below.setCell ?_ ?_ _)) | (with_reducible (refine Below.alloc ?_ ?_ _)) | (with_reducible (refine Below.drew ?_)) | (with_reducible (refine below_via ?_ HB9.out ?_)) | omega | (simp; done) | (simp; omega))))
              have YO := Lib.hid (HOw.out.below SB.out (Nat.le_refl _))
              have YB := Lib.hid (below_via ZB.out SB.out ZB.out.size)
              clear y19 y20 y22 yf19 yf20 yf22 Z10 Z11 ZX ZY ZD ZB HOw
              have y19 := fun j => cell_of_row _ _ j _ _ _ YX.out
              have yf19 := fun j => frozen_of_row _ _ j _ _ YX.out
              have z19m := heap_lt YX.out
             
              go_upto_region 30 with fail
              refine name_world ?_
              intro wb hwb
              have K10 := Lib.hid (show wb.heap[w.heap.size + 3]? = some (.cells zHit hitT (0, 0)) by rw [hwb]; exact (by repeat (first | (with_reducible exact Y10.out) | (with_reducible refine heap_far_is (by (first | (dsimp only; omega) | omega | (simp; done) | (simp; omega))) ?_))))
              have K11 := Lib.hid (show wb.heap[w.heap.size + 4]? = some (.cells zFault faultT (0, 0)) by rw [hwb]; exact (by repeat (first | (with_reducible exact Y11.out) | (with_reducible refine heap_far_is (by (first | (dsimp only; omega) | omega | (simp; done) | (simp; omega))) ?_))))
              have KX := Lib.hid (show wb.heap[w2.heap.size]? = some (.cells #[.int .i64 a0, .int .i64 a1, .bool c0, .bool c1, .bool c2, .bool c3, .bool c4, .int .i64 c5, .int .i64 k] hitT (0, 0)) by rw [hwb]; simp [World.setCell, Array.getElem?_modify, YX.out])
              have KY := Lib.hid (show wb.heap[w2.heap.size + 1]? = some (.cells #[.int .i64 0, .int .i64 b1, .int .i64 b2, .bool b3, .int .i64 b4] faultT (0, 0)) by rw [hwb]; exact (by repeat (first | (with_reducible exact YY.out) | (with_reducible refine heap_far_is (by (first | (dsimp only; omega) | omega | (simp; done) | (simp; omega))) ?_))))
              have KO := Lib.hid (show Own wb (w.heap.size + 5) intT 1 intCells rd4 Rw cw from YO.out.keep2 fun p hp => by
                have h := Own.blk_off YO.out YX.out (by decide) p hp
                rw [hwb]
                exact (by repeat (first | (with_reducible exact rfl) | (with_reducible refine heap_far_is (by (first | (dsimp only; omega) | omega | (simp; done) | (simp; omega))) ?_))))
              have KB := Lib.hid (show Below w.heap.size w wb by rw [hwb]; exact (by repeat' (first | (with_reducible exact YB.out) | (with_reducible refine Below.setCell ?_ ?_ _) | (first | (dsimp only; omega) | omega | (simp; done) | (simp; omega)))))
              have hbs : w9.heap.size ≤ wb.heap.size := by rw [hwb]; simp
              clear hwb y19 yf19 Y10 Y11 YX YY YO YB
              have kxl := heap_lt KX.out
              have kyl := heap_lt KY.out
             
              refine wp_region_done (fun d w9 => Put2C (wb) 3 (w.heap.size + 3) (hitT) (#[.int .i64 0, .int .i64 0, .bool false, .bool false, .bool false, .bool false, .bool false, .int .i64 0, .int .i64 0]) (#[.int .i64 a0, .int .i64 a1, .bool c0, .bool c1, .bool c2, .bool c3, .bool c4, .int .i64 c5, .int .i64 k]) 4 (w.heap.size + 4) (faultT) (#[.int .i64 0, .int .i64 0, .int .i64 0, .bool false, .int .i64 0]) (#[.int .i64 0, .int .i64 b1, .int .i64 b2, .bool b3, .int .i64 b4]) d w9) (by kernel_rfl) (by kernel_rfl) (put2_start (K10.out) (K11.out)) ?_
              repeat (first
                | (refine wpLex_pass (by rfl) (passes_put2 (by rfl) (by rfl)) ?_; (conv => arg 9; simp only [put_lit, put_lit_none, List.set]))
                | (refine wpLex_put2 (by rfl) (by rfl) (by rfl) ?_
                   apply Exists.intro
                   refine ⟨?_, ?_⟩
                   · intro w' hsz hkw hz1 hz2
                     try (replace hz1 := hz1 rfl; have hzc1 := fun j => cell_of_row _ _ j _ _ _ hz1; have hzf1 := fun j => frozen_of_row _ _ j _ _ hz1)
                     try (replace hz2 := hz2 rfl; have hzc2 := fun j => cell_of_row _ _ j _ _ _ hz2; have hzf2 := fun j => frozen_of_row _ _ j _ _ hz2)
                     have q0_ := (hkw (w2.heap.size) (by omega) (by omega) (by omega)).trans (KX.out); have q0 := fun j => cell_of_row _ _ j _ _ _ q0_; have qf0 := fun j => frozen_of_row _ _ j _ _ q0_; clear q0_
                     have q1_ := (hkw (w2.heap.size + 1) (by omega) (by omega) (by omega)).trans (KY.out); have q1 := fun j => cell_of_row _ _ j _ _ _ q1_; have qf1 := fun j => frozen_of_row _ _ j _ _ q1_; clear q1_
                     clear hkw
                     try clear hz1
                     try clear hz2
                     go_simp
                     first
                       | exact ⟨rfl, Below.refl _ _⟩
                       | exact Below.refl _ _
                   conv => arg 9; simp only [put_lit, put_lit_none, List.set])
                | (refine wpLex_put2a (by rfl) (by rfl) (by rfl) (by omega) undef ?_ ?_
                   · intro w' hz
                     have hzc := fun j => cell_of_row _ _ j _ _ _ hz
                     have hzf := fun j => frozen_of_row _ _ j _ _ hz
                     go_simp
                     exact ⟨(by repeat' (first | (with_reducible exact Below.refl _ _) | (with_reducible (refine Below.setCell ?_ ?_ _)) | omega | (simp; done))), (fun x hx => by repeat (rw [heap_set_other (by exact hx)])), (by simp [World.setCell, Array.getElem?_modify, hz])⟩
                   conv => arg 9; simp only [put_lit, put_lit_none, List.set])
                | (refine wpLex_put2b (by rfl) (by rfl) (by rfl) (by omega) undef ?_ ?_
                   · intro w' hz
                     have hzc := fun j => cell_of_row _ _ j _ _ _ hz
                     have hzf := fun j => frozen_of_row _ _ j _ _ hz
                     go_simp
                     exact ⟨(by repeat' (first | (with_reducible exact Below.refl _ _) | (with_reducible (refine Below.setCell ?_ ?_ _)) | omega | (simp; done))), (fun x hx => by repeat (rw [heap_set_other (by exact hx)])), (by simp [World.setCell, Array.getElem?_modify, hz])⟩
                   conv => arg 9; simp only [put_lit, put_lit_none, List.set]))
              refine wpLex_nil ?_
              intro wt dt hdt hCt
              obtain ⟨hbt, hkt, hxt, hyt⟩ := put2_done hCt (hdt 3 (by decide)) (hdt 4 (by decide))
              clear hCt hdt
              have hst := hbt.size
              have HBt := Lib.hid hbt
              have HKt := Lib.hid hkt
              have HXt := Lib.hid hxt
              have HYt := Lib.hid hyt
              clear hbt hkt hxt hyt
              have e8 := fun j => cell_of_row _ _ j _ _ _ HXt.out
              have e9 := fun j => cell_of_row _ _ j _ _ _ HYt.out
              go_wp2
              have hr4e := HRD4.out
              subst hr4e
              refine bodyPost_ret (v := .tuple #[.agg #[.int .i64 a0, .int .i64 a1, .bool c0, .bool c1, .bool c2, .bool c3, .bool c4, .int .i64 c5, .int .i64 k], .agg #[.int .i64 0, .int .i64 b1, .int .i64 b2, .bool b3, .int .i64 b4], .slice Rw (rd3 ++ rl).length cw]) (by simp [results, Try.results33, go_sem, *]) rfl ⟨Rw, cw, rfl, ?_, below_via KB.out HBt.out (by omega)⟩
              exact (KO.out.keep fun x hx1 hx2 _ => HKt.out x hx2 (by omega) (by omega)).mono (by omega)
            · have qb : (b0 != 0) = true := by simpa using hb0
              rw [if_neg hb0] at hr7
              try dsimp only at hr7
              rw [← HRD4.out] at hr7
              obtain rfl : res = _ := hr7.symm
             
              go_upto_region 28 with fail
              clear y19 y20 y22 yf19 yf20 yf22
              refine wp_region_done (fun d w9 => Put2C (ww) 3 (w.heap.size + 3) (hitT) (#[.int .i64 0, .int .i64 0, .bool false, .bool false, .bool false, .bool false, .bool false, .int .i64 0, .int .i64 0]) (#[.int .i64 0, .int .i64 0, .bool false, .bool false, .bool false, .bool false, .bool false, .int .i64 0, .int .i64 0]) 4 (w.heap.size + 4) (faultT) (#[.int .i64 0, .int .i64 0, .int .i64 0, .bool false, .int .i64 0]) (#[.int .i64 b0, .int .i64 b1, .int .i64 b2, .bool b3, .int .i64 b4]) d w9) (by kernel_rfl) (by kernel_rfl) (put2_start (Z10.out) (Z11.out)) ?_
              repeat (first
                | (refine wpLex_pass (by rfl) (passes_put2 (by rfl) (by rfl)) ?_; (conv => arg 9; simp only [put_lit, put_lit_none, List.set]))
                | (refine wpLex_put2 (by rfl) (by rfl) (by rfl) ?_
                   apply Exists.intro
                   refine ⟨?_, ?_⟩
                   · intro w' hsz hkw hz1 hz2
                     try (replace hz1 := hz1 rfl; have hzc1 := fun j => cell_of_row _ _ j _ _ _ hz1; have hzf1 := fun j => frozen_of_row _ _ j _ _ hz1)
                     try (replace hz2 := hz2 rfl; have hzc2 := fun j => cell_of_row _ _ j _ _ _ hz2; have hzf2 := fun j => frozen_of_row _ _ j _ _ hz2)
                     have q0_ := (hkw (w2.heap.size + 1) (by omega) (by omega) (by omega)).trans (ZY.out); have q0 := fun j => cell_of_row _ _ j _ _ _ q0_; have qf0 := fun j => frozen_of_row _ _ j _ _ q0_; clear q0_
                     clear hkw
                     try clear hz1
                     try clear hz2
                     go_simp
                     first
                       | exact ⟨rfl, Below.refl _ _⟩
                       | exact Below.refl _ _
                   conv => arg 9; simp only [put_lit, put_lit_none, List.set])
                | (refine wpLex_put2a (by rfl) (by rfl) (by rfl) (by omega) undef ?_ ?_
                   · intro w' hz
                     have hzc := fun j => cell_of_row _ _ j _ _ _ hz
                     have hzf := fun j => frozen_of_row _ _ j _ _ hz
                     go_simp
                     exact ⟨(by repeat' (first | (with_reducible exact Below.refl _ _) | (with_reducible (refine Below.setCell ?_ ?_ _)) | omega | (simp; done))), (fun x hx => by repeat (rw [heap_set_other (by exact hx)])), (by simp [World.setCell, Array.getElem?_modify, hz])⟩
                   conv => arg 9; simp only [put_lit, put_lit_none, List.set])
                | (refine wpLex_put2b (by rfl) (by rfl) (by rfl) (by omega) undef ?_ ?_
                   · intro w' hz
                     have hzc := fun j => cell_of_row _ _ j _ _ _ hz
                     have hzf := fun j => frozen_of_row _ _ j _ _ hz
                     go_simp
                     exact ⟨(by repeat' (first | (with_reducible exact Below.refl _ _) | (with_reducible (refine Below.setCell ?_ ?_ _)) | omega | (simp; done))), (fun x hx => by repeat (rw [heap_set_other (by exact hx)])), (by simp [World.setCell, Array.getElem?_modify, hz])⟩
                   conv => arg 9; simp only [put_lit, put_lit_none, List.set]))
              refine wpLex_nil ?_
              intro wt dt hdt hCt
              obtain ⟨hbt, hkt, hxt, hyt⟩ := put2_done hCt (hdt 3 (by decide)) (hdt 4 (by decide))
              clear hCt hdt
              have hst := hbt.size
              have HBt := Lib.hid hbt
              have HKt := Lib.hid hkt
              have HXt := Lib.hid hxt
              have HYt := Lib.hid hyt
              clear hbt hkt hxt hyt
              have e8 := fun j => cell_of_row _ _ j _ _ _ HXt.out
              have e9 := fun j => cell_of_row _ _ j _ _ _ HYt.out
              go_wp2
              have hr4e := HRD4.out
              subst hr4e
              refine bodyPost_ret (v := .tuple #[.agg noHt.cells.toArray, .agg #[.int .i64 b0, .int .i64 b1, .int .i64 b2, .bool b3, .int .i64 b4], .slice Rw (rd3 ++ rl).length cw]) (by simp [noHt, Ht.cells, results, Try.results33, go_sem, *]) rfl ⟨Rw, cw, rfl, ?_, below_via ZB.out HBt.out (by omega)⟩
              exact (HOw.out.keep fun x hx1 hx2 _ => HKt.out x hx2 (by omega) (by omega)).mono (by omega)
          · have qf0 : (f0 != 0) = true := by simpa using hf0
            have hr6 := HR5.out
            rw [if_neg hf0] at hr6
            dsimp only at hr6
            rw [List.append_nil] at hr6
            obtain rfl : res = _ := hr6.symm
           
            go_upto_region 24 with fail
            clear y20 yf20
            refine wp_region_done (fun d w9 => Put2C (wa) 3 (w.heap.size + 3) (hitT) (#[.int .i64 0, .int .i64 0, .bool false, .bool false, .bool false, .bool false, .bool false, .int .i64 0, .int .i64 0]) (#[.int .i64 0, .int .i64 0, .bool false, .bool false, .bool false, .bool false, .bool false, .int .i64 0, .int .i64 0]) 4 (w.heap.size + 4) (faultT) (#[.int .i64 0, .int .i64 0, .int .i64 0, .bool false, .int .i64 0]) (#[.int .i64 f0, .int .i64 f1, .int .i64 f2, .bool f3, .int .i64 f4]) d w9) (by kernel_rfl) (by kernel_rfl) (put2_start (A10.out) (A11.out)) ?_
            repeat (first
              | (refine wpLex_pass (by rfl) (passes_put2 (by rfl) (by rfl)) ?_; (conv => arg 9; simp only [put_lit, put_lit_none, List.set]))
              | (refine wpLex_put2 (by rfl) (by rfl) (by rfl) ?_
                 apply Exists.intro
                 refine ⟨?_, ?_⟩
                 · intro w' hsz hkw hz1 hz2
                   try (replace hz1 := hz1 rfl; have hzc1 := fun j => cell_of_row _ _ j _ _ _ hz1; have hzf1 := fun j => frozen_of_row _ _ j _ _ hz1)
                   try (replace hz2 := hz2 rfl; have hzc2 := fun j => cell_of_row _ _ j _ _ _ hz2; have hzf2 := fun j => frozen_of_row _ _ j _ _ hz2)
                   have q0_ := (hkw (w2.heap.size + 1) (by omega) (by omega) (by omega)).trans (AF.out); have q0 := fun j => cell_of_row _ _ j _ _ _ q0_; have qf0 := fun j => frozen_of_row _ _ j _ _ q0_; clear q0_
                   clear hkw
                   try clear hz1
                   try clear hz2
                   go_simp
                   first
                     | exact ⟨rfl, Below.refl _ _⟩
                     | exact Below.refl _ _
                 conv => arg 9; simp only [put_lit, put_lit_none, List.set])
              | (refine wpLex_put2a (by rfl) (by rfl) (by rfl) (by omega) undef ?_ ?_
                 · intro w' hz
                   have hzc := fun j => cell_of_row _ _ j _ _ _ hz
                   have hzf := fun j => frozen_of_row _ _ j _ _ hz
                   go_simp
                   exact ⟨(by repeat' (first | (with_reducible exact Below.refl _ _) | (with_reducible (refine Below.setCell ?_ ?_ _)) | omega | (simp; done))), (fun x hx => by repeat (rw [heap_set_other (by exact hx)])), (by simp [World.setCell, Array.getElem?_modify, hz])⟩
                 conv => arg 9; simp only [put_lit, put_lit_none, List.set])
              | (refine wpLex_put2b (by rfl) (by rfl) (by rfl) (by omega) undef ?_ ?_
                 · intro w' hz
                   have hzc := fun j => cell_of_row _ _ j _ _ _ hz
                   have hzf := fun j => frozen_of_row _ _ j _ _ hz
                   go_simp
                   exact ⟨(by repeat' (first | (with_reducible exact Below.refl _ _) | (with_reducible (refine Below.setCell ?_ ?_ _)) | omega | (simp; done))), (fun x hx => by repeat (rw [heap_set_other (by exact hx)])), (by simp [World.setCell, Array.getElem?_modify, hz])⟩
                 conv => arg 9; simp only [put_lit, put_lit_none, List.set]))
            refine wpLex_nil ?_
            intro wt dt hdt hCt
            obtain ⟨hbt, hkt, hxt, hyt⟩ := put2_done hCt (hdt 3 (by decide)) (hdt 4 (by decide))
            clear hCt hdt
            have hst := hbt.size
            have HBt := Lib.hid hbt
            have HKt := Lib.hid hkt
            have HXt := Lib.hid hxt
            have HYt := Lib.hid hyt
            clear hbt hkt hxt hyt
            have e8 := fun j => cell_of_row _ _ j _ _ _ HXt.out
            have e9 := fun j => cell_of_row _ _ j _ _ _ HYt.out
            go_wp2
            refine bodyPost_ret (v := .tuple #[.agg noHt.cells.toArray, .agg #[.int .i64 f0, .int .i64 f1, .int .i64 f2, .bool f3, .int .i64 f4], .slice R6 rd3.length c6]) (by simp [noHt, Ht.cells, results, Try.results33, go_sem, *]) rfl ⟨R6, c6, rfl, ?_, below_via AB.out HBt.out (by omega)⟩
            exact (AO.out.keep fun x hx1 hx2 _ => HKt.out x hx2 (by omega) (by omega)).mono (by omega)
    · have qm : (m0 != 0) = true := by simpa using hm0
      have hr3 := HRS.out
      rw [if_neg hm0, ← HRD.out] at hr3
      obtain rfl : res = _ := hr3.symm
     
      go_upto_region 15 with fail
      refine name_world ?_
      intro w7 hw7
      have K10 := Lib.hid (show w7.heap[w.heap.size + 3]? = some (.cells zHit hitT (0, 0)) by rw [hw7]; exact (by repeat (first | (with_reducible exact G10.out) | (with_reducible refine heap_far_is (by (first | (dsimp only; omega) | omega | (simp; done) | (simp; omega))) ?_))))
      have K11 := Lib.hid (show w7.heap[w.heap.size + 4]? = some (.cells zFault faultT (0, 0)) by rw [hw7]; exact (by repeat (first | (with_reducible exact G11.out) | (with_reducible refine heap_far_is (by (first | (dsimp only; omega) | omega | (simp; done) | (simp; omega))) ?_))))
      have K20 := Lib.hid (show w7.heap[w2.heap.size + 1]? = some (.cells #[.int .i64 m0, .int .i64 m1, .int .i64 m2, .bool true, .int .i64 m4] faultT (0, 0)) by rw [hw7]; exact heap_set_same GF.out 3 _)
      have KO := Lib.hid (show Own w7 (w.heap.size + 5) intT 1 intCells rd2 R5 c5 from HO5.out.keep2 fun p hp => by
        have h := Own.blk_off HO5.out GF.out (by decide) p hp
        rw [hw7]
        exact (by repeat (first | (with_reducible exact rfl) | (with_reducible refine heap_far_is (by (first | (dsimp only; omega) | omega | (simp; done) | (simp; omega))) ?_))))
      have KB := Lib.hid (show Below w.heap.size w w7 by rw [hw7]; exact (by repeat' (first | (with_reducible exact GB.out) | (with_reducible refine Below.setCell ?_ ?_ _) | (first | (dsimp only; omega) | omega | (simp; done) | (simp; omega)))))
      have k20l := heap_lt K20.out
      clear hw7 y19 y20 yf19 yf20
      refine wp_region_done (fun d w9 => Put2C (w7) 3 (w.heap.size + 3) (hitT) (#[.int .i64 0, .int .i64 0, .bool false, .bool false, .bool false, .bool false, .bool false, .int .i64 0, .int .i64 0]) (#[.int .i64 0, .int .i64 0, .bool false, .bool false, .bool false, .bool false, .bool false, .int .i64 0, .int .i64 0]) 4 (w.heap.size + 4) (faultT) (#[.int .i64 0, .int .i64 0, .int .i64 0, .bool false, .int .i64 0]) (#[.int .i64 m0, .int .i64 m1, .int .i64 m2, .bool true, .int .i64 m4]) d w9) (by kernel_rfl) (by kernel_rfl) (put2_start (K10.out) (K11.out)) ?_
      repeat (first
        | (refine wpLex_pass (by rfl) (passes_put2 (by rfl) (by rfl)) ?_; (conv => arg 9; simp only [put_lit, put_lit_none, List.set]))
        | (refine wpLex_put2 (by rfl) (by rfl) (by rfl) ?_
           apply Exists.intro
           refine ⟨?_, ?_⟩
           · intro w' hsz hkw hz1 hz2
             try (replace hz1 := hz1 rfl; have hzc1 := fun j => cell_of_row _ _ j _ _ _ hz1; have hzf1 := fun j => frozen_of_row _ _ j _ _ hz1)
             try (replace hz2 := hz2 rfl; have hzc2 := fun j => cell_of_row _ _ j _ _ _ hz2; have hzf2 := fun j => frozen_of_row _ _ j _ _ hz2)
             have q0_ := (hkw (w2.heap.size + 1) (by omega) (by omega) (by omega)).trans (K20.out); have q0 := fun j => cell_of_row _ _ j _ _ _ q0_; have qf0 := fun j => frozen_of_row _ _ j _ _ q0_; clear q0_
             clear hkw
             try clear hz1
             try clear hz2
             go_simp
             first
               | exact ⟨rfl, Below.refl _ _⟩
               | exact Below.refl _ _
           conv => arg 9; simp only [put_lit, put_lit_none, List.set])
        | (refine wpLex_put2a (by rfl) (by rfl) (by rfl) (by omega) undef ?_ ?_
           · intro w' hz
             have hzc := fun j => cell_of_row _ _ j _ _ _ hz
             have hzf := fun j => frozen_of_row _ _ j _ _ hz
             go_simp
             exact ⟨(by repeat' (first | (with_reducible exact Below.refl _ _) | (with_reducible (refine Below.setCell ?_ ?_ _)) | omega | (simp; done))), (fun x hx => by repeat (rw [heap_set_other (by exact hx)])), (by simp [World.setCell, Array.getElem?_modify, hz])⟩
           conv => arg 9; simp only [put_lit, put_lit_none, List.set])
        | (refine wpLex_put2b (by rfl) (by rfl) (by rfl) (by omega) undef ?_ ?_
           · intro w' hz
             have hzc := fun j => cell_of_row _ _ j _ _ _ hz
             have hzf := fun j => frozen_of_row _ _ j _ _ hz
             go_simp
             exact ⟨(by repeat' (first | (with_reducible exact Below.refl _ _) | (with_reducible (refine Below.setCell ?_ ?_ _)) | omega | (simp; done))), (fun x hx => by repeat (rw [heap_set_other (by exact hx)])), (by simp [World.setCell, Array.getElem?_modify, hz])⟩
           conv => arg 9; simp only [put_lit, put_lit_none, List.set]))
      refine wpLex_nil ?_
      intro wt dt hdt hCt
      obtain ⟨hbt, hkt, hxt, hyt⟩ := put2_done hCt (hdt 3 (by decide)) (hdt 4 (by decide))
      clear hCt hdt
      have hst := hbt.size
      have HBt := Lib.hid hbt
      have HKt := Lib.hid hkt
      have HXt := Lib.hid hxt
      have HYt := Lib.hid hyt
      clear hbt hkt hxt hyt
      have e8 := fun j => cell_of_row _ _ j _ _ _ HXt.out
      have e9 := fun j => cell_of_row _ _ j _ _ _ HYt.out
      go_wp2
      refine bodyPost_ret (v := .tuple #[.agg noHt.cells.toArray, .agg #[.int .i64 m0, .int .i64 m1, .int .i64 m2, .bool true, .int .i64 m4], .slice R5 rd2.length c5]) (by simp [noHt, Ht.cells, results, Try.results33, go_sem, *]) rfl ⟨R5, c5, rfl, ?_, below_via KB.out HBt.out (by omega)⟩
      exact (KO.out.keep fun x hx1 hx2 _ => HKt.out x hx2 (by omega) (by omega)).mono (by omega)

end Go.Proofs.Ytddbndmbcdeggaa
