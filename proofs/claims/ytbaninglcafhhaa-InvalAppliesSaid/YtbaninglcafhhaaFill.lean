/-
  An entry more: the program's answer and the page's. Conditions: the lengths fit.
-/
import Derived.Test.YtbaninglcafhhaaOne
import Derived.Test.YtbaninglcafhhaaApp
import Derived.Test.YtbaninglcafhhaaLeft
namespace Go.Proofs.Ytbaninglcafhhaa
open Go.RowKit

def fillE (es : List Ent) (e : Ent) : List Ent := if decide (es.length < 8) && !(es.any (entEq e)) then es ++ [e] else es
theorem ent_ones (e : Ent) : ∀ u ∈ e.cells, u.oneCell' = true := fun u h => ent_one (l := [e]) u (by simpa using h)
theorem inv_ones (i : Inv) : ∀ u ∈ i.cells, u.oneCell' = true := fun u h => inv_one (l := [i]) u (by simpa using h)

set_option maxRecDepth 100000 in
set_option maxHeartbeats 4000000 in
theorem Fill_no (t : Tl) (e : Ent) (w : World) (h : TlAt w t) (hno : (tlbOk t.es t.ds && entOk e) = false) :
    Calls Try.prog 27 #[.agg t.cells.toArray, .agg e.cells.toArray] w fun y w' => y = .returned (.tuple #[.agg #[.slice none 0 0, .slice none 0 0], .int .i64 1]) ∧ Below w.heap.size w w' := by
  have HC := Lib.hid (fun W (hb : Below w.heap.size w W) => Check_any t W (h.below hb))
  have HM := Lib.hid (fun W => emay_any e W)
  obtain ⟨ea, ec, es, da, dc, ds⟩ := t
  dsimp only [Tl.cells] at *
  generalize tlbOk es ds = g1 at *
  generalize entOk e = g2 at *
  obtain ⟨a0, a1, a2, a3, a4, a5, a6, a7, a8, a9, a10, a11, a12, a13⟩ := e
  dsimp only [Ent.cells] at *
  have E0 : okErr false = 1 := rfl
  have E1 : okErr true = 0 := rfl
  clear h
  cases g1
  · clear hno
    go_enter Try.func27, Try.ntmps27
    go_wp2_with fail
    refine Calls.mono (HC.out _ (by repeat' (first | (with_reducible exact Below.refl _ _) | (with_reducible (refine Below.setCell ?_ ?_ _)) | (with_reducible (refine Below.alloc ?_ ?_ _)) | (with_reducible (refine Below.drew ?_)) | omega | (simp; done) | (simp; omega)))) ?_
    rintro e w1 ⟨rfl, hb1⟩
    have hs1 := hb1.size
    try simp at hs1
    have hc1_0 := fun o => (bcell hb1).1 (w.heap.size) o (by first | omega | (simp; done) | (simp; omega))
    have hf1_0 := fun o => (bcell hb1).2.1 (w.heap.size) o (by first | omega | (simp; done) | (simp; omega))
    have hz1_0 := (bcell hb1).2.2 (w.heap.size) (by first | omega | (simp; done) | (simp; omega))
    have hc1_1 := fun o => (bcell hb1).1 (w.heap.size + 1) o (by first | omega | (simp; done) | (simp; omega))
    have hf1_1 := fun o => (bcell hb1).2.1 (w.heap.size + 1) o (by first | omega | (simp; done) | (simp; omega))
    have hz1_1 := (bcell hb1).2.2 (w.heap.size + 1) (by first | omega | (simp; done) | (simp; omega))
    have hc1_2 := fun o => (bcell hb1).1 (w.heap.size + 2) o (by first | omega | (simp; done) | (simp; omega))
    have hf1_2 := fun o => (bcell hb1).2.1 (w.heap.size + 2) o (by first | omega | (simp; done) | (simp; omega))
    have hz1_2 := (bcell hb1).2.2 (w.heap.size + 2) (by first | omega | (simp; done) | (simp; omega))
    have HB1 := Lib.hid hb1
    clear hb1
    go_wp2
    refine bodyPost_ret (v := .tuple #[.agg #[.slice none 0 0, .slice none 0 0], .int .i64 1]) (by simp [results, Try.results27, go_sem, *]) rfl ⟨rfl, ?_⟩
    repeat' (first | (with_reducible exact Below.refl _ _) | (with_reducible (refine Below.setCell ?_ ?_ _)) | (with_reducible (refine Below.alloc ?_ ?_ _)) | (with_reducible (refine Below.drew ?_)) | (with_reducible (refine below_via ?_ HB1.out ?_)) | omega | (simp; done) | (simp; omega))
  · obtain rfl : g2 = false := by simpa using hno
    clear hno
    go_enter Try.func27, Try.ntmps27
    go_wp2_with fail
    refine Calls.mono (HC.out _ (by repeat' (first | (with_reducible exact Below.refl _ _) | (with_reducible (refine Below.setCell ?_ ?_ _)) | (with_reducible (refine Below.alloc ?_ ?_ _)) | (with_reducible (refine Below.drew ?_)) | omega | (simp; done) | (simp; omega)))) ?_
    rintro e w1 ⟨rfl, hb1⟩
    have hs1 := hb1.size
    try simp at hs1
    have hc1_0 := fun o => (bcell hb1).1 (w.heap.size) o (by first | omega | (simp; done) | (simp; omega))
    have hf1_0 := fun o => (bcell hb1).2.1 (w.heap.size) o (by first | omega | (simp; done) | (simp; omega))
    have hz1_0 := (bcell hb1).2.2 (w.heap.size) (by first | omega | (simp; done) | (simp; omega))
    have hc1_1 := fun o => (bcell hb1).1 (w.heap.size + 1) o (by first | omega | (simp; done) | (simp; omega))
    have hf1_1 := fun o => (bcell hb1).2.1 (w.heap.size + 1) o (by first | omega | (simp; done) | (simp; omega))
    have hz1_1 := (bcell hb1).2.2 (w.heap.size + 1) (by first | omega | (simp; done) | (simp; omega))
    have hc1_2 := fun o => (bcell hb1).1 (w.heap.size + 2) o (by first | omega | (simp; done) | (simp; omega))
    have hf1_2 := fun o => (bcell hb1).2.1 (w.heap.size + 2) o (by first | omega | (simp; done) | (simp; omega))
    have hz1_2 := (bcell hb1).2.2 (w.heap.size + 2) (by first | omega | (simp; done) | (simp; omega))
    have HB1 := Lib.hid hb1
    clear hb1
    go_wp2_with fail
    refine Calls.mono (HM.out _) ?_
    rintro e w2 ⟨rfl, hb2⟩
    have hs2 := hb2.size
    try simp at hs2
    have hc2_0 := fun o => (bcell hb2).1 (w.heap.size) o (by first | omega | (simp; done) | (simp; omega))
    have hf2_0 := fun o => (bcell hb2).2.1 (w.heap.size) o (by first | omega | (simp; done) | (simp; omega))
    have hz2_0 := (bcell hb2).2.2 (w.heap.size) (by first | omega | (simp; done) | (simp; omega))
    have hc2_1 := fun o => (bcell hb2).1 (w.heap.size + 1) o (by first | omega | (simp; done) | (simp; omega))
    have hf2_1 := fun o => (bcell hb2).2.1 (w.heap.size + 1) o (by first | omega | (simp; done) | (simp; omega))
    have hz2_1 := (bcell hb2).2.2 (w.heap.size + 1) (by first | omega | (simp; done) | (simp; omega))
    have hc2_2 := fun o => (bcell hb2).1 (w.heap.size + 2) o (by first | omega | (simp; done) | (simp; omega))
    have hf2_2 := fun o => (bcell hb2).2.1 (w.heap.size + 2) o (by first | omega | (simp; done) | (simp; omega))
    have hz2_2 := (bcell hb2).2.2 (w.heap.size + 2) (by first | omega | (simp; done) | (simp; omega))
    have HB2 := Lib.hid hb2
    clear hb2
    go_wp2
    refine bodyPost_ret (v := .tuple #[.agg #[.slice none 0 0, .slice none 0 0], .int .i64 1]) (by simp [results, Try.results27, go_sem, *]) rfl ⟨rfl, ?_⟩
    repeat' (first | (with_reducible exact Below.refl _ _) | (with_reducible (refine Below.setCell ?_ ?_ _)) | (with_reducible (refine Below.alloc ?_ ?_ _)) | (with_reducible (refine Below.drew ?_)) | (with_reducible (refine below_via ?_ HB2.out ?_)) | (with_reducible (refine below_via ?_ HB1.out ?_)) | omega | (simp; done) | (simp; omega))

set_option maxRecDepth 100000 in
set_option maxHeartbeats 4000000 in
theorem Fill_yes (t : Tl) (e : Ent) (w : World) (h : TlAt w t) (h1 : tlbOk t.es t.ds = true) (h2 : entOk e = true) :
    Calls Try.prog 27 #[.agg t.cells.toArray, .agg e.cells.toArray] w fun y w' => ∃ A c B d, y = .returned (.tuple #[.agg #[.slice A (fillE t.es e).length c, .slice B t.ds.length d], .int .i64 0]) ∧
      Own w' (w.heap.size + 3) entT 14 Ent.cells (fillE t.es e) A c ∧ Own w' (w.heap.size + 3) invT 4 Inv.cells t.ds B d ∧ Below w.heap.size w w' := by
  have HC := Lib.hid (fun W (hb : Below w.heap.size w W) => Check_any t W (h.below hb))
  have HM := Lib.hid (fun W => emay_any e W)
  obtain ⟨k1, k2, k3, k4⟩ := tlbOk_ents h1
  have HCP := Lib.hid (fun W (hb : Below w.heap.size w W) => tCopy_any t W (h.below hb) (by omega) (by omega))
  have HCN := Lib.hid (fun (A : Option Addr) (c : Nat) W (hA : At W A 14 Ent.cells t.es) => Contains_ent e A c t.es W (by omega) hA)
  obtain ⟨es', hes⟩ : ∃ x, x = fillE t.es e := ⟨_, rfl⟩
  rw [← hes]
  unfold fillE at hes
  have HES := Lib.hid hes
  clear hes
  obtain ⟨i0, hi0, hz0, hz1, hz2⟩ := info_parts ent_info
  have HI0 := Lib.hid hi0
  have HZ0 := Lib.hid hz0
  have HZ1 := Lib.hid hz1
  have HZ2 := Lib.hid hz2
  clear hi0 hz0 hz1 hz2
  rw [h1] at HC
  rw [h2] at HM
  have E1 : okErr true = 0 := rfl
  rw [E1] at HC
  obtain ⟨ea, ec, es, da, dc, ds⟩ := t
  dsimp only [Tl.cells] at *
  rw [show (fun y => entEq e y) = entEq e from rfl] at HCN
  generalize es.any (entEq e) = cn at *
  obtain ⟨a0, a1, a2, a3, a4, a5, a6, a7, a8, a9, a10, a11, a12, a13⟩ := e
  dsimp only [Ent.cells] at *
  clear h h1 h2 k3 k4
  go_enter Try.func27, Try.ntmps27
  go_wp2_with fail
  refine Calls.mono (HC.out _ (by repeat' (first | (with_reducible exact Below.refl _ _) | (with_reducible (refine Below.setCell ?_ ?_ _)) | (with_reducible (refine Below.alloc ?_ ?_ _)) | (with_reducible (refine Below.drew ?_)) | omega | (simp; done) | (simp; omega)))) ?_
  rintro e w1 ⟨rfl, hb1⟩
  have hs1 := hb1.size
  try simp at hs1
  have hc1_0 := fun o => (bcell hb1).1 (w.heap.size) o (by first | omega | (simp; done) | (simp; omega))
  have hf1_0 := fun o => (bcell hb1).2.1 (w.heap.size) o (by first | omega | (simp; done) | (simp; omega))
  have hz1_0 := (bcell hb1).2.2 (w.heap.size) (by first | omega | (simp; done) | (simp; omega))
  have hc1_1 := fun o => (bcell hb1).1 (w.heap.size + 1) o (by first | omega | (simp; done) | (simp; omega))
  have hf1_1 := fun o => (bcell hb1).2.1 (w.heap.size + 1) o (by first | omega | (simp; done) | (simp; omega))
  have hz1_1 := (bcell hb1).2.2 (w.heap.size + 1) (by first | omega | (simp; done) | (simp; omega))
  have hc1_2 := fun o => (bcell hb1).1 (w.heap.size + 2) o (by first | omega | (simp; done) | (simp; omega))
  have hf1_2 := fun o => (bcell hb1).2.1 (w.heap.size + 2) o (by first | omega | (simp; done) | (simp; omega))
  have hz1_2 := (bcell hb1).2.2 (w.heap.size + 2) (by first | omega | (simp; done) | (simp; omega))
  have HB1 := Lib.hid hb1
  clear hb1
  go_wp2_with fail
  refine Calls.mono (HM.out _) ?_
  rintro e w2 ⟨rfl, hb2⟩
  have hs2 := hb2.size
  try simp at hs2
  have hc2_0 := fun o => (bcell hb2).1 (w.heap.size) o (by first | omega | (simp; done) | (simp; omega))
  have hf2_0 := fun o => (bcell hb2).2.1 (w.heap.size) o (by first | omega | (simp; done) | (simp; omega))
  have hz2_0 := (bcell hb2).2.2 (w.heap.size) (by first | omega | (simp; done) | (simp; omega))
  have hc2_1 := fun o => (bcell hb2).1 (w.heap.size + 1) o (by first | omega | (simp; done) | (simp; omega))
  have hf2_1 := fun o => (bcell hb2).2.1 (w.heap.size + 1) o (by first | omega | (simp; done) | (simp; omega))
  have hz2_1 := (bcell hb2).2.2 (w.heap.size + 1) (by first | omega | (simp; done) | (simp; omega))
  have hc2_2 := fun o => (bcell hb2).1 (w.heap.size + 2) o (by first | omega | (simp; done) | (simp; omega))
  have hf2_2 := fun o => (bcell hb2).2.1 (w.heap.size + 2) o (by first | omega | (simp; done) | (simp; omega))
  have hz2_2 := (bcell hb2).2.2 (w.heap.size + 2) (by first | omega | (simp; done) | (simp; omega))
  have HB2 := Lib.hid hb2
  clear hb2
  go_wp2_with fail
  refine Calls.mono (HCP.out _ (by repeat' (first | (with_reducible exact Below.refl _ _) | (with_reducible (refine Below.setCell ?_ ?_ _)) | (with_reducible (refine Below.alloc ?_ ?_ _)) | (with_reducible (refine Below.drew ?_)) | (with_reducible (refine below_via ?_ HB2.out ?_)) | (with_reducible (refine below_via ?_ HB1.out ?_)) | omega | (simp; done) | (simp; omega)))) ?_
  rintro e w3 ⟨A, c, B, d, rfl, hown, howd, hb3⟩
  have hs3 := hb3.size
  try simp at hs3
  have hc3_0 := fun o => (bcell hb3).1 (w.heap.size) o (by first | omega | (simp; done) | (simp; omega))
  have hf3_0 := fun o => (bcell hb3).2.1 (w.heap.size) o (by first | omega | (simp; done) | (simp; omega))
  have hz3_0 := (bcell hb3).2.2 (w.heap.size) (by first | omega | (simp; done) | (simp; omega))
  have hc3_1 := fun o => (bcell hb3).1 (w.heap.size + 1) o (by first | omega | (simp; done) | (simp; omega))
  have hf3_1 := fun o => (bcell hb3).2.1 (w.heap.size + 1) o (by first | omega | (simp; done) | (simp; omega))
  have hz3_1 := (bcell hb3).2.2 (w.heap.size + 1) (by first | omega | (simp; done) | (simp; omega))
  have hc3_2 := fun o => (bcell hb3).1 (w.heap.size + 2) o (by first | omega | (simp; done) | (simp; omega))
  have hf3_2 := fun o => (bcell hb3).2.1 (w.heap.size + 2) o (by first | omega | (simp; done) | (simp; omega))
  have hz3_2 := (bcell hb3).2.2 (w.heap.size + 2) (by first | omega | (simp; done) | (simp; omega))
  have HB3 := Lib.hid hb3
  clear hb3
  have Hhown := Lib.hid hown
  clear hown
  have Hhowd := Lib.hid howd
  clear howd
  have HBX := Lib.hid (show Below w.heap.size w w3 from (by repeat' (first | (with_reducible exact Below.refl _ _) | (with_reducible (refine Below.setCell ?_ ?_ _)) | (with_reducible (refine Below.alloc ?_ ?_ _)) | (with_reducible (refine Below.drew ?_)) | (with_reducible (refine below_via ?_ HB3.out ?_)) | (with_reducible (refine below_via ?_ HB2.out ?_)) | (with_reducible (refine below_via ?_ HB1.out ?_)) | omega | (simp; done) | (simp; omega))))
  have hA3 : ∀ p : Addr, A = some p → p.block < w3.heap.size := fun p hp => (Hhown.out.block_ hp).2
  have HA3 := Lib.hid hA3
  clear hA3
  by_cases hlen : es.length < 8
  · have hl8 : decide ((es.length : Int) < 8) = true := by simp; omega
    cases cn
    · have HE2 := Lib.hid (show es' = es ++ [⟨a0, a1, a2, a3, a4, a5, a6, a7, a8, a9, a10, a11, a12, a13⟩] by rw [HES.out]; simp [hlen])
      clear HES
      go_wp2_with fail
      refine Calls.mono (HCN.out A c _ ((Hhown.out.at_ ent_len).below (by repeat' (first | (with_reducible exact Below.refl _ _) | (with_reducible (refine Below.setCell ?_ ?_ _)) | (with_reducible (refine Below.alloc ?_ ?_ _)) | (with_reducible (refine Below.drew ?_)) | omega | (simp; done) | (simp; omega))))) ?_
      rintro e w4 ⟨rfl, hb4⟩
      have hs4 := hb4.size
      try simp at hs4
      have hc4_0 := fun o => (bcell hb4).1 (w.heap.size + 1) o (by first | omega | (simp; done) | (simp; omega))
      have hf4_0 := fun o => (bcell hb4).2.1 (w.heap.size + 1) o (by first | omega | (simp; done) | (simp; omega))
      have hz4_0 := (bcell hb4).2.2 (w.heap.size + 1) (by first | omega | (simp; done) | (simp; omega))
      have hc4_1 := fun o => (bcell hb4).1 (w.heap.size + 2) o (by first | omega | (simp; done) | (simp; omega))
      have hf4_1 := fun o => (bcell hb4).2.1 (w.heap.size + 2) o (by first | omega | (simp; done) | (simp; omega))
      have hz4_1 := (bcell hb4).2.2 (w.heap.size + 2) (by first | omega | (simp; done) | (simp; omega))
      have hc4_2 := fun o => (bcell hb4).1 (w3.heap.size) o (by first | omega | (simp; done) | (simp; omega))
      have hf4_2 := fun o => (bcell hb4).2.1 (w3.heap.size) o (by first | omega | (simp; done) | (simp; omega))
      have hz4_2 := (bcell hb4).2.2 (w3.heap.size) (by first | omega | (simp; done) | (simp; omega))
      have HB4 := Lib.hid hb4
      clear hb4
      have HBY := Lib.hid (show w4.heap[w3.heap.size]? = some (.cells #[.slice A es.length c, .slice B ds.length d] tlbT (0, 0)) from (by repeat (first | (with_reducible assumption) | (with_reducible refine heap_below_is HB4.out (by (first | omega | (simp; done) | (simp; omega))) ?_) | (exact heap_at _ _ (by simp; done)) | (with_reducible refine heap_old_is _ _ (by (first | omega | (simp; done) | (simp; omega))) ?_) | (with_reducible refine heap_far_is (by (first | omega | (simp; done) | (simp; omega))) ?_))))
      have HO4 := Lib.hid (show Own w4 (w.heap.size + 3) entT 14 Ent.cells es A c from (by repeat (first | (with_reducible exact Own.mono Hhown.out (by (first | omega | (simp; done) | (simp; omega)))) | (with_reducible refine Own.set_far ?_ (by (first | omega | (simp; done) | (simp; omega))) _) | (with_reducible refine Own.alloc ?_ _) | (with_reducible refine Own.drew ?_) | (with_reducible refine Own.below ?_ HB4.out (by (first | omega | (simp; done) | (simp; omega)))))))
      have HI4 := Lib.hid (show Own w4 (w.heap.size + 3) invT 4 Inv.cells ds B d from (by repeat (first | (with_reducible exact Own.mono Hhowd.out (by (first | omega | (simp; done) | (simp; omega)))) | (with_reducible refine Own.set_far ?_ (by (first | omega | (simp; done) | (simp; omega))) _) | (with_reducible refine Own.alloc ?_ _) | (with_reducible refine Own.drew ?_) | (with_reducible refine Own.below ?_ HB4.out (by (first | omega | (simp; done) | (simp; omega)))))))
      have hs4' : w3.heap.size < w4.heap.size := by omega
      go_wp2_with (at_builtin; refine wpList_one rfl (.tmp 31) (.tmp 33) _ rfl (w.heap.size + 3) entT i0 _ 14 80 Try.underlying24 HI0.out HZ0.out HZ1.out HZ2.out rfl (by omega) ent_len ent_ones es es' ⟨a0, a1, a2, a3, a4, a5, a6, a7, a8, a9, a10, a11, a12, a13⟩ HE2.out A c rfl (HO4.out.alloc _) _ rfl (heap_new _ _) (by simp only [maxLen]; omega) (by omega) (by simp; omega) ?_; intro A5 c5 w5 ho5 hb5 hk5; have HO5 := Lib.hid ho5; have HK5 := Lib.hid hk5; have HB5 := Lib.hid hb5; have hs5 := hb5.size; clear ho5 hk5 hb5; (try simp at hs5); have HX5 := Lib.hid ((HK5.out w3.heap.size (by simp; omega) (fun p hp => by have := HA3.out p hp; omega)).trans ((heap_old _ _ hs4').trans HBY.out)); have HI5 := Lib.hid ((HI4.out.alloc (.cells #[.int .i64 a0, .int .i64 a1, .int .i64 a2, .bool a3, .int .i64 a4, .int .i64 a5, .int .i64 a6, .int .i64 a7, .bool a8, .bool a9, .bool a10, .bool a11, .bool a12, .int .i64 a13] entT)).keep2 (w' := w5) (fun p hp => HK5.out p.block (by have := (HI4.out.block_ hp).2; simp; omega) (fun q hq => Own.blk_ne HO4.out HI4.out (by decide) q p hq hp))); have x5 := fun j => cell_of_row _ _ j _ _ _ HX5.out; have xf5 := fun j => frozen_of_row _ _ j _ _ HX5.out; have r5 := fun o => HB5.out.cell (p := ⟨w.heap.size + 2, o, none⟩) (by simp); have rf5 := fun o => HB5.out.frozen (p := ⟨w.heap.size + 2, o, none⟩) (by simp))
      have hn1 := HO5.out.ne_blk HX5.out (by decide)
      have hn2 := HI5.out.ne_blk HX5.out (by decide)
      have HO6 := Lib.hid (fun u => HO5.out.set_ne (p := ⟨w3.heap.size, 0, none⟩) hn1 u)
      have HI6 := Lib.hid (fun u => HI5.out.set_ne (p := ⟨w3.heap.size, 0, none⟩) hn2 u)
      clear hn1 hn2
      refine bodyPost_ret (v := .tuple #[.agg #[.slice A5 es'.length c5, .slice B ds.length d], .int .i64 0]) (by simp [results, Try.results27, go_sem, *]) rfl ⟨A5, c5, B, d, rfl, ?_, ?_, ?_⟩
      · exact (((HO6.out _).set_far (by simp) _).set_far (by simp) _)
      · exact (((HI6.out _).set_far (by simp) _).set_far (by simp) _)
      · repeat' (first | (with_reducible exact Below.refl _ _) | (with_reducible (refine Below.setCell ?_ ?_ _)) | (with_reducible (refine Below.alloc ?_ ?_ _)) | (with_reducible (refine Below.drew ?_)) | (with_reducible (refine below_via ?_ HB5.out ?_)) | (with_reducible (refine below_via ?_ HB4.out ?_)) | (with_reducible (refine below_via ?_ HBX.out ?_)) | omega | (simp; done) | (simp; omega))
    · obtain rfl : es' = es := by rw [HES.out]; simp
      clear HES
      go_wp2_with fail
      refine Calls.mono (HCN.out A c _ ((Hhown.out.at_ ent_len).below (by repeat' (first | (with_reducible exact Below.refl _ _) | (with_reducible (refine Below.setCell ?_ ?_ _)) | (with_reducible (refine Below.alloc ?_ ?_ _)) | (with_reducible (refine Below.drew ?_)) | omega | (simp; done) | (simp; omega))))) ?_
      rintro e w4 ⟨rfl, hb4⟩
      have hs4 := hb4.size
      try simp at hs4
      have hc4_0 := fun o => (bcell hb4).1 (w.heap.size + 1) o (by first | omega | (simp; done) | (simp; omega))
      have hf4_0 := fun o => (bcell hb4).2.1 (w.heap.size + 1) o (by first | omega | (simp; done) | (simp; omega))
      have hz4_0 := (bcell hb4).2.2 (w.heap.size + 1) (by first | omega | (simp; done) | (simp; omega))
      have hc4_1 := fun o => (bcell hb4).1 (w.heap.size + 2) o (by first | omega | (simp; done) | (simp; omega))
      have hf4_1 := fun o => (bcell hb4).2.1 (w.heap.size + 2) o (by first | omega | (simp; done) | (simp; omega))
      have hz4_1 := (bcell hb4).2.2 (w.heap.size + 2) (by first | omega | (simp; done) | (simp; omega))
      have hc4_2 := fun o => (bcell hb4).1 (w3.heap.size) o (by first | omega | (simp; done) | (simp; omega))
      have hf4_2 := fun o => (bcell hb4).2.1 (w3.heap.size) o (by first | omega | (simp; done) | (simp; omega))
      have hz4_2 := (bcell hb4).2.2 (w3.heap.size) (by first | omega | (simp; done) | (simp; omega))
      have HB4 := Lib.hid hb4
      clear hb4
      go_wp2
      refine bodyPost_ret (v := .tuple #[.agg #[.slice A es'.length c, .slice B ds.length d], .int .i64 0]) (by simp [results, Try.results27, go_sem, *]) rfl ⟨A, c, B, d, rfl, ?_, ?_, ?_⟩
      · have h4 : Own w4 (w.heap.size + 3) entT 14 Ent.cells es' A c := (by repeat (first | (with_reducible exact Own.mono Hhown.out (by (first | omega | (simp; done) | (simp; omega)))) | (with_reducible refine Own.set_far ?_ (by (first | omega | (simp; done) | (simp; omega))) _) | (with_reducible refine Own.alloc ?_ _) | (with_reducible refine Own.drew ?_) | (with_reducible refine Own.below ?_ HB4.out (by (first | omega | (simp; done) | (simp; omega))))))
        exact ((h4.set_far (by simp) _).set_far (by simp) _)
      · have h4 : Own w4 (w.heap.size + 3) invT 4 Inv.cells ds B d := (by repeat (first | (with_reducible exact Own.mono Hhowd.out (by (first | omega | (simp; done) | (simp; omega)))) | (with_reducible refine Own.set_far ?_ (by (first | omega | (simp; done) | (simp; omega))) _) | (with_reducible refine Own.alloc ?_ _) | (with_reducible refine Own.drew ?_) | (with_reducible refine Own.below ?_ HB4.out (by (first | omega | (simp; done) | (simp; omega))))))
        exact ((h4.set_far (by simp) _).set_far (by simp) _)
      · repeat' (first | (with_reducible exact Below.refl _ _) | (with_reducible (refine Below.setCell ?_ ?_ _)) | (with_reducible (refine Below.alloc ?_ ?_ _)) | (with_reducible (refine Below.drew ?_)) | (with_reducible (refine below_via ?_ HB4.out ?_)) | (with_reducible (refine below_via ?_ HBX.out ?_)) | omega | (simp; done) | (simp; omega))
  · have hl8 : decide ((es.length : Int) < 8) = false := by simp; omega
    obtain rfl : es' = es := by rw [HES.out]; simp [hlen]
    clear HES
    go_wp2
    refine bodyPost_ret (v := .tuple #[.agg #[.slice A es'.length c, .slice B ds.length d], .int .i64 0]) (by simp [results, Try.results27, go_sem, *]) rfl ⟨A, c, B, d, rfl, ?_, ?_, ?_⟩
    · have h4 : Own w3 (w.heap.size + 3) entT 14 Ent.cells es' A c := Hhown.out.mono (by omega)
      exact (by repeat (first | (with_reducible exact Own.mono h4 (by (first | omega | (simp; done) | (simp; omega)))) | (with_reducible refine Own.set_far ?_ (by (first | omega | (simp; done) | (simp; omega))) _) | (with_reducible refine Own.alloc ?_ _) | (with_reducible refine Own.drew ?_)))
    · have h4 : Own w3 (w.heap.size + 3) invT 4 Inv.cells ds B d := Hhowd.out.mono (by omega)
      exact (by repeat (first | (with_reducible exact Own.mono h4 (by (first | omega | (simp; done) | (simp; omega)))) | (with_reducible refine Own.set_far ?_ (by (first | omega | (simp; done) | (simp; omega))) _) | (with_reducible refine Own.alloc ?_ _) | (with_reducible refine Own.drew ?_)))
    · repeat' (first | (with_reducible exact Below.refl _ _) | (with_reducible (refine Below.setCell ?_ ?_ _)) | (with_reducible (refine Below.alloc ?_ ?_ _)) | (with_reducible (refine Below.drew ?_)) | (with_reducible (refine below_via ?_ HBX.out ?_)) | omega | (simp; done) | (simp; omega))

end Go.Proofs.Ytbaninglcafhhaa
