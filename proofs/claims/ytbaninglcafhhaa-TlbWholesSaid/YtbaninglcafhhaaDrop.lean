/-
  An entry less: the program's answer. Conditions: it reads.
-/
import Derived.Test.YtbaninglcafhhaaDel1
import Derived.Test.YtbaninglcafhhaaApp
namespace Go.Proofs.Ytbaninglcafhhaa
open Go.RowKit

def dropE (es : List Ent) (n : Nat) : List Ent := es.take n ++ es.drop (n + 1)

set_option maxRecDepth 100000 in
set_option maxHeartbeats 4000000 in
theorem Drop_no (t : Tl) (i : Int) (w : World) (h : TlAt w t) (hno : tlbOk t.es t.ds = false) :
    Calls Try.prog 52 #[.agg t.cells.toArray, .int .i64 i] w fun y w' => y = .returned (.tuple #[.agg #[.slice none 0 0, .slice none 0 0], .int .i64 1]) ∧ Below w.heap.size w w' := by
  have HC := Lib.hid (fun W (hb : Below w.heap.size w W) => Check_any t W (h.below hb))
  obtain ⟨ea, ec, es, da, dc, ds⟩ := t
  dsimp only [Tl.cells] at *
  rw [hno] at HC
  have E0 : okErr false = 1 := rfl
  clear h hno
  go_enter Try.func52, Try.ntmps52
  go_wp2_with fail
  refine Calls.mono (HC.out _ (by repeat' (first | (with_reducible exact Below.refl _ _) | (with_reducible (refine Below.setCell ?_ ?_ _)) | (with_reducible (refine Below.alloc ?_ ?_ _)) | (with_reducible (refine Below.drew ?_)) | omega | (simp; done) | (simp; omega)))) ?_
  rintro e w1 ⟨rfl, hb1⟩
  have hs1 := hb1.size
  try simp at hs1
  have hc1_0 := fun o => (bcell hb1).1 (w.heap.size) o (by first | omega | (simp; done) | (simp; omega))
  have hf1_0 := fun o => (bcell hb1).2.1 (w.heap.size) o (by first | omega | (simp; done) | (simp; omega))
  have hz1_0 := (bcell hb1).2.2 (w.heap.size) (by first | omega | (simp; done) | (simp; omega))
  have hc1_1 := fun o => (bcell hb1).1 (w.heap.size + 1) o (by first | omega | (simp; done) | (simp; omega))
  have hf1_1 := fun o => (bcell hb1).2.1 (w.heap.size + 1) o (by first | omega | (simp; done) | (simp; omega))
  have hz1_1 := (bcell hb1).2.2 (w.heap.size + 1) (by first | omega | (simp; done) | (simp; omega))
  have HB1 := Lib.hid hb1
  clear hb1
  go_wp2
  refine bodyPost_ret (v := .tuple #[.agg #[.slice none 0 0, .slice none 0 0], .int .i64 1]) (by simp [results, Try.results52, go_sem, *]) rfl ⟨rfl, ?_⟩
  repeat' (first | (with_reducible exact Below.refl _ _) | (with_reducible (refine Below.setCell ?_ ?_ _)) | (with_reducible (refine Below.alloc ?_ ?_ _)) | (with_reducible (refine Below.drew ?_)) | (with_reducible (refine below_via ?_ HB1.out ?_)) | omega | (simp; done) | (simp; omega))

set_option maxRecDepth 100000 in
set_option maxHeartbeats 4000000 in
theorem Drop_none (t : Tl) (i : Int) (w : World) (h : TlAt w t) (h1 : tlbOk t.es t.ds = true) (hi : i < 0 ∨ (t.es.length : Int) ≤ i) :
    Calls Try.prog 52 #[.agg t.cells.toArray, .int .i64 i] w fun y w' => y = .returned (.tuple #[.agg #[.slice none 0 0, .slice none 0 0], .int .i64 3]) ∧ Below w.heap.size w w' := by
  have HC := Lib.hid (fun W (hb : Below w.heap.size w W) => Check_any t W (h.below hb))
  obtain ⟨ea, ec, es, da, dc, ds⟩ := t
  dsimp only [Tl.cells] at *
  rw [h1, show okErr true = 0 from rfl] at HC
  have HI := Lib.hid hi
  clear h h1 hi
  by_cases h0 : i < 0
  · go_enter Try.func52, Try.ntmps52
    go_wp2_with fail
    refine Calls.mono (HC.out _ (by repeat' (first | (with_reducible exact Below.refl _ _) | (with_reducible (refine Below.setCell ?_ ?_ _)) | (with_reducible (refine Below.alloc ?_ ?_ _)) | (with_reducible (refine Below.drew ?_)) | omega | (simp; done) | (simp; omega)))) ?_
    rintro e w1 ⟨rfl, hb1⟩
    have hs1 := hb1.size
    try simp at hs1
    have hc1_0 := fun o => (bcell hb1).1 (w.heap.size) o (by first | omega | (simp; done) | (simp; omega))
    have hf1_0 := fun o => (bcell hb1).2.1 (w.heap.size) o (by first | omega | (simp; done) | (simp; omega))
    have hz1_0 := (bcell hb1).2.2 (w.heap.size) (by first | omega | (simp; done) | (simp; omega))
    have hc1_1 := fun o => (bcell hb1).1 (w.heap.size + 1) o (by first | omega | (simp; done) | (simp; omega))
    have hf1_1 := fun o => (bcell hb1).2.1 (w.heap.size + 1) o (by first | omega | (simp; done) | (simp; omega))
    have hz1_1 := (bcell hb1).2.2 (w.heap.size + 1) (by first | omega | (simp; done) | (simp; omega))
    have HB1 := Lib.hid hb1
    clear hb1
    go_wp2
    refine bodyPost_ret (v := .tuple #[.agg #[.slice none 0 0, .slice none 0 0], .int .i64 3]) (by simp [results, Try.results52, go_sem, *]) rfl ⟨rfl, ?_⟩
    repeat' (first | (with_reducible exact Below.refl _ _) | (with_reducible (refine Below.setCell ?_ ?_ _)) | (with_reducible (refine Below.alloc ?_ ?_ _)) | (with_reducible (refine Below.drew ?_)) | (with_reducible (refine below_via ?_ HB1.out ?_)) | omega | (simp; done) | (simp; omega))
  · have h2 : (es.length : Int) ≤ i := by rcases HI.out with h | h <;> omega
    have h3 : ¬ i < 0 := h0
    go_enter Try.func52, Try.ntmps52
    go_wp2_with fail
    refine Calls.mono (HC.out _ (by repeat' (first | (with_reducible exact Below.refl _ _) | (with_reducible (refine Below.setCell ?_ ?_ _)) | (with_reducible (refine Below.alloc ?_ ?_ _)) | (with_reducible (refine Below.drew ?_)) | omega | (simp; done) | (simp; omega)))) ?_
    rintro e w1 ⟨rfl, hb1⟩
    have hs1 := hb1.size
    try simp at hs1
    have hc1_0 := fun o => (bcell hb1).1 (w.heap.size) o (by first | omega | (simp; done) | (simp; omega))
    have hf1_0 := fun o => (bcell hb1).2.1 (w.heap.size) o (by first | omega | (simp; done) | (simp; omega))
    have hz1_0 := (bcell hb1).2.2 (w.heap.size) (by first | omega | (simp; done) | (simp; omega))
    have hc1_1 := fun o => (bcell hb1).1 (w.heap.size + 1) o (by first | omega | (simp; done) | (simp; omega))
    have hf1_1 := fun o => (bcell hb1).2.1 (w.heap.size + 1) o (by first | omega | (simp; done) | (simp; omega))
    have hz1_1 := (bcell hb1).2.2 (w.heap.size + 1) (by first | omega | (simp; done) | (simp; omega))
    have HB1 := Lib.hid hb1
    clear hb1
    go_wp2
    refine bodyPost_ret (v := .tuple #[.agg #[.slice none 0 0, .slice none 0 0], .int .i64 3]) (by simp [results, Try.results52, go_sem, *]) rfl ⟨rfl, ?_⟩
    repeat' (first | (with_reducible exact Below.refl _ _) | (with_reducible (refine Below.setCell ?_ ?_ _)) | (with_reducible (refine Below.alloc ?_ ?_ _)) | (with_reducible (refine Below.drew ?_)) | (with_reducible (refine below_via ?_ HB1.out ?_)) | omega | (simp; done) | (simp; omega))

set_option maxRecDepth 100000 in
set_option maxHeartbeats 4000000 in
theorem Drop_yes (t : Tl) (n : Nat) (w : World) (h : TlAt w t) (h1 : tlbOk t.es t.ds = true) (hn : n < t.es.length) :
    Calls Try.prog 52 #[.agg t.cells.toArray, .int .i64 n] w fun y w' => ∃ A c B d, y = .returned (.tuple #[.agg #[.slice A (dropE t.es n).length c, .slice B t.ds.length d], .int .i64 0]) ∧
      Own w' (w.heap.size + 2) entT 14 Ent.cells (dropE t.es n) A c ∧ Own w' (w.heap.size + 2) invT 4 Inv.cells t.ds B d ∧ Below w.heap.size w w' := by
  have HC := Lib.hid (fun W (hb : Below w.heap.size w W) => Check_any t W (h.below hb))
  obtain ⟨k1, k2, k3, k4⟩ := tlbOk_ents h1
  have HCP := Lib.hid (fun W (hb : Below w.heap.size w W) => tCopy_any t W (h.below hb) (by omega) (by omega))
  obtain ⟨ea, ec, es, da, dc, ds⟩ := t
  dsimp only [Tl.cells] at *
  rw [h1, show okErr true = 0 from rfl] at HC
  have HDL := Lib.hid (fun B g c W (hO : Own W B entT 14 Ent.cells es (some ⟨g, 0, none⟩) c) (hB : B ≤ W.heap.size) => Delete_ent B g c es n W hn (by omega) hO hB)
  rw [show es.take n ++ es.drop (n + 1) = dropE es n from rfl] at HDL
  generalize dropE es n = es' at *
  have hni : (n : Int) < es.length := by omega
  have hn0 : (0 : Int) ≤ (n : Int) := by omega
  have hw1 : IntKind.i64.wrap ((n : Int) + 1) = (n : Int) + 1 := IntWalk.i64_in _ (by omega)
  clear h h1 k3 k4
  go_enter Try.func52, Try.ntmps52
  go_wp2_with fail
  refine Calls.mono (HC.out _ (by repeat' (first | (with_reducible exact Below.refl _ _) | (with_reducible (refine Below.setCell ?_ ?_ _)) | (with_reducible (refine Below.alloc ?_ ?_ _)) | (with_reducible (refine Below.drew ?_)) | omega | (simp; done) | (simp; omega)))) ?_
  rintro e w1 ⟨rfl, hb1⟩
  have hs1 := hb1.size
  try simp at hs1
  have hc1_0 := fun o => (bcell hb1).1 (w.heap.size) o (by first | omega | (simp; done) | (simp; omega))
  have hf1_0 := fun o => (bcell hb1).2.1 (w.heap.size) o (by first | omega | (simp; done) | (simp; omega))
  have hz1_0 := (bcell hb1).2.2 (w.heap.size) (by first | omega | (simp; done) | (simp; omega))
  have hc1_1 := fun o => (bcell hb1).1 (w.heap.size + 1) o (by first | omega | (simp; done) | (simp; omega))
  have hf1_1 := fun o => (bcell hb1).2.1 (w.heap.size + 1) o (by first | omega | (simp; done) | (simp; omega))
  have hz1_1 := (bcell hb1).2.2 (w.heap.size + 1) (by first | omega | (simp; done) | (simp; omega))
  have HB1 := Lib.hid hb1
  clear hb1
  go_wp2_with fail
  refine Calls.mono (HCP.out _ (by repeat' (first | (with_reducible exact Below.refl _ _) | (with_reducible (refine Below.setCell ?_ ?_ _)) | (with_reducible (refine Below.alloc ?_ ?_ _)) | (with_reducible (refine Below.drew ?_)) | (with_reducible (refine below_via ?_ HB1.out ?_)) | omega | (simp; done) | (simp; omega)))) ?_
  rintro e w2 ⟨A, c, B, d, rfl, hown, howd, hb2⟩
  have hs2 := hb2.size
  try simp at hs2
  have hc2_0 := fun o => (bcell hb2).1 (w.heap.size) o (by first | omega | (simp; done) | (simp; omega))
  have hf2_0 := fun o => (bcell hb2).2.1 (w.heap.size) o (by first | omega | (simp; done) | (simp; omega))
  have hz2_0 := (bcell hb2).2.2 (w.heap.size) (by first | omega | (simp; done) | (simp; omega))
  have hc2_1 := fun o => (bcell hb2).1 (w.heap.size + 1) o (by first | omega | (simp; done) | (simp; omega))
  have hf2_1 := fun o => (bcell hb2).2.1 (w.heap.size + 1) o (by first | omega | (simp; done) | (simp; omega))
  have hz2_1 := (bcell hb2).2.2 (w.heap.size + 1) (by first | omega | (simp; done) | (simp; omega))
  have HB2 := Lib.hid hb2
  clear hb2
  have Hhown := Lib.hid hown
  clear hown
  have Hhowd := Lib.hid howd
  clear howd
  obtain ⟨g, rfl, hg1, hg2, _⟩ := Hhown.out.spot (by omega)
  have HBX := Lib.hid (show Below w.heap.size w w2 from (by repeat' (first | (with_reducible exact Below.refl _ _) | (with_reducible (refine Below.setCell ?_ ?_ _)) | (with_reducible (refine Below.alloc ?_ ?_ _)) | (with_reducible (refine Below.drew ?_)) | (with_reducible (refine below_via ?_ HB2.out ?_)) | (with_reducible (refine below_via ?_ HB1.out ?_)) | omega | (simp; done) | (simp; omega))))
  have hs12 : w.heap.size + 2 ≤ w1.heap.size := by omega
  have HO := Lib.hid (show Own w2 (w.heap.size + 2) entT 14 Ent.cells es (some ⟨g, 0, none⟩) c from Hhown.out.mono (by omega))
  have HI := Lib.hid (show Own w2 (w.heap.size + 2) invT 4 Inv.cells ds B d from Hhowd.out.mono (by omega))
  clear Hhown Hhowd
  go_wp2_with fail
  refine Calls.mono (HDL.out (w.heap.size + 2) g c _ (HO.out.alloc _) (by simp; omega)) ?_
  rintro e w3 ⟨rfl, ho3, hb3, hk3⟩
  have hs3 := hb3.size
  try simp at hs3
  have HB3 := Lib.hid hb3
  clear hb3
  have Hho3 := Lib.hid ho3
  clear ho3
  have Hhk3 := Lib.hid hk3
  clear hk3
  have hgn : g ≠ w2.heap.size := by omega
  have HX3 := Lib.hid (show w3.heap[w2.heap.size]? = some (.cells #[.slice (some ⟨g, 0, none⟩) es.length c, .slice B ds.length d] tlbT (0, 0)) from (Hhk3.out _ (by simp) (fun e => hgn e.symm)).trans (heap_new _ _))
  have HI3 := Lib.hid (show Own w3 (w.heap.size + 2) invT 4 Inv.cells ds B d from (HI.out.alloc (.cells #[.slice (some ⟨g, 0, none⟩) es.length c, .slice B ds.length d] tlbT)).keep2 (fun p hp => Hhk3.out p.block (by have := (HI.out.block_ hp).2; simp; omega) (fun e => Own.blk_ne HO.out HI.out (by decide) ⟨g, 0, none⟩ p rfl hp e.symm)))
  have x3 := fun j => cell_of_row _ _ j _ _ _ HX3.out
  have xf3 := fun j => frozen_of_row _ _ j _ _ HX3.out
  have hn1 := Hho3.out.ne_blk HX3.out (by decide)
  have hn2 := HI3.out.ne_blk HX3.out (by decide)
  have HO5 := Lib.hid (fun u => Hho3.out.set_ne (p := ⟨w2.heap.size, 0, none⟩) hn1 u)
  have HI5 := Lib.hid (fun u => HI3.out.set_ne (p := ⟨w2.heap.size, 0, none⟩) hn2 u)
  have s1 := fun o => HB3.out.cell (p := ⟨w.heap.size + 1, o, none⟩) (by simp)
  have sf1 := fun o => HB3.out.frozen (p := ⟨w.heap.size + 1, o, none⟩) (by simp)
  have hne1 : ¬ w2.heap.size = w.heap.size + 1 := by omega
  have hne2 : ¬ w.heap.size + 1 = w2.heap.size := by omega
  clear hn1 hn2 hw1
  go_wp2
  refine bodyPost_ret (v := .tuple #[.agg #[.slice (some ⟨g, 0, none⟩) es'.length c, .slice B ds.length d], .int .i64 0]) (by simp [results, Try.results52, go_sem, *]) rfl ⟨some ⟨g, 0, none⟩, c, B, d, rfl, ?_, ?_, ?_⟩
  · exact ((HO5.out _).set_far (by simp) _).set_far (by simp) _
  · exact ((HI5.out _).set_far (by simp) _).set_far (by simp) _
  · repeat' (first | (with_reducible exact Below.refl _ _) | (with_reducible (refine Below.setCell ?_ ?_ _)) | (with_reducible (refine Below.alloc ?_ ?_ _)) | (with_reducible (refine Below.drew ?_)) | (with_reducible (refine below_via ?_ HB3.out ?_)) | (with_reducible (refine below_via ?_ HBX.out ?_)) | omega | (simp; done) | (simp; omega))

end Go.Proofs.Ytbaninglcafhhaa
