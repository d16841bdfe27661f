/-
  One more that is due: the program's answer. Conditions: the TLB reads; the lengths fit.
-/
import Derived.Test.YtbaninglcafhhaaApp
import Derived.Test.YtbaninglcafhhaaFill
import Derived.Test.YtbaninglcafhhaaPut
import Derived.Deep.CutRange
namespace Go.Proofs.Ytbaninglcafhhaa
open Go.RowKit

set_option maxRecDepth 100000 in
set_option maxHeartbeats 4000000 in
theorem Later_no (t : Tl) (i : Inv) (w : World) (h : TlAt w t) (hno : (tlbOk t.es t.ds && dueOk i) = false) :
    Calls Try.prog 42 #[.agg t.cells.toArray, .agg i.cells.toArray] w fun y w' => y = .returned (.tuple #[.agg #[.slice none 0 0, .slice none 0 0], .int .i64 1]) ∧ Below w.heap.size w w' := by
  have HC := Lib.hid (fun W (hb : Below w.heap.size w W) => Check_any t W (h.below hb))
  have HM := Lib.hid (fun (W : World) (b : Nat) (hb : b = W.heap.size) => imay_any (some ⟨b, 0, none⟩) 1 [i] (W.alloc (.cells i.cells.toArray invT)) (by simp) (at_lit W [i] b _ inv_len hb (by simp)))
  simp only [List.all_cons, List.all_nil, Bool.and_true] at HM
  obtain ⟨ea, ec, es, da, dc, ds⟩ := t
  dsimp only [Tl.cells] at *
  generalize tlbOk es ds = g1 at *
  generalize dueOk i = g2 at *
  obtain ⟨i0, i1, i2, i3⟩ := i
  dsimp only [Inv.cells] at *
  have E0 : okErr false = 1 := rfl
  have E1 : okErr true = 0 := rfl
  clear h
  cases g1
  · clear hno
    go_enter Try.func42, Try.ntmps42
    go_wp2_with fail
    refine Calls.mono (HC.out _ (by repeat' (first | (with_reducible exact Below.refl _ _) | (with_reducible (refine Below.setCell ?_ ?_ _)) | (with_reducible (refine Below.alloc ?_ ?_ _)) | (with_reducible (refine Below.drew ?_)) | omega | (simp; done) | (simp; omega)))) ?_
    rintro e w1 ⟨rfl, hb1⟩
    have hs1 := hb1.size
    try simp at hs1
    have hc1_0 := fun o => (bcell hb1).1 (w.heap.size) o (by first | omega | (simp; done) | (simp; omega))
    have hf1_0 := fun o => (bcell hb1).2.1 (w.heap.size) o (by first | omega | (simp; done) | (simp; omega))
    have hz1_0 := (bcell hb1).2.2 (w.heap.size) (by first | omega | (simp; done) | (simp; omega))
    have hc1_1 := fun o => (bcell hb1).1 (w.heap.size + 1) o (by first | omega | (simp; done) | (simp; omega))
    have hf1_1 := fun o => (bcell hb1).2.1 (w.heap.size + 1) o (by first | omega | (simp; done) | (simp; omega))
    have hz1_1 := (bcell hb1).2.2 (w.heap.size + 1) (by first | omega | (simp; done) | (simp; omega))
    have hc1_2 := fun o => (bcell hb1).1 (w.heap.size + 2) o (by first | omega | (simp; done) | (simp; omega))
    have hf1_2 := fun o => (bcell hb1).2.1 (w.heap.size + 2) o (by first | omega | (simp; done) | (simp; omega))
    have hz1_2 := (bcell hb1).2.2 (w.heap.size + 2) (by first | omega | (simp; done) | (simp; omega))
    have HB1 := Lib.hid hb1
    clear hb1
    go_wp2
    refine bodyPost_ret (v := .tuple #[.agg #[.slice none 0 0, .slice none 0 0], .int .i64 1]) (by simp [results, Try.results42, go_sem, *]) rfl ⟨rfl, ?_⟩
    repeat' (first | (with_reducible exact Below.refl _ _) | (with_reducible (refine Below.setCell ?_ ?_ _)) | (with_reducible (refine Below.alloc ?_ ?_ _)) | (with_reducible (refine Below.drew ?_)) | (with_reducible (refine below_via ?_ HB1.out ?_)) | omega | (simp; done) | (simp; omega))
  · obtain rfl : g2 = false := by simpa using hno
    clear hno
    go_enter Try.func42, Try.ntmps42
    go_wp2_with fail
    refine Calls.mono (HC.out _ (by repeat' (first | (with_reducible exact Below.refl _ _) | (with_reducible (refine Below.setCell ?_ ?_ _)) | (with_reducible (refine Below.alloc ?_ ?_ _)) | (with_reducible (refine Below.drew ?_)) | omega | (simp; done) | (simp; omega)))) ?_
    rintro e w1 ⟨rfl, hb1⟩
    have hs1 := hb1.size
    try simp at hs1
    have hc1_0 := fun o => (bcell hb1).1 (w.heap.size) o (by first | omega | (simp; done) | (simp; omega))
    have hf1_0 := fun o => (bcell hb1).2.1 (w.heap.size) o (by first | omega | (simp; done) | (simp; omega))
    have hz1_0 := (bcell hb1).2.2 (w.heap.size) (by first | omega | (simp; done) | (simp; omega))
    have hc1_1 := fun o => (bcell hb1).1 (w.heap.size + 1) o (by first | omega | (simp; done) | (simp; omega))
    have hf1_1 := fun o => (bcell hb1).2.1 (w.heap.size + 1) o (by first | omega | (simp; done) | (simp; omega))
    have hz1_1 := (bcell hb1).2.2 (w.heap.size + 1) (by first | omega | (simp; done) | (simp; omega))
    have hc1_2 := fun o => (bcell hb1).1 (w.heap.size + 2) o (by first | omega | (simp; done) | (simp; omega))
    have hf1_2 := fun o => (bcell hb1).2.1 (w.heap.size + 2) o (by first | omega | (simp; done) | (simp; omega))
    have hz1_2 := (bcell hb1).2.2 (w.heap.size + 2) (by first | omega | (simp; done) | (simp; omega))
    have HB1 := Lib.hid hb1
    clear hb1
    go_wp2_with fail
    refine Calls.mono (HM.out _ _ (by simp)) ?_
    rintro e w2 ⟨rfl, hb2⟩
    have hs2 := hb2.size
    try simp at hs2
    have hc2_0 := fun o => (bcell hb2).1 (w.heap.size) o (by first | omega | (simp; done) | (simp; omega))
    have hf2_0 := fun o => (bcell hb2).2.1 (w.heap.size) o (by first | omega | (simp; done) | (simp; omega))
    have hz2_0 := (bcell hb2).2.2 (w.heap.size) (by first | omega | (simp; done) | (simp; omega))
    have hc2_1 := fun o => (bcell hb2).1 (w.heap.size + 1) o (by first | omega | (simp; done) | (simp; omega))
    have hf2_1 := fun o => (bcell hb2).2.1 (w.heap.size + 1) o (by first | omega | (simp; done) | (simp; omega))
    have hz2_1 := (bcell hb2).2.2 (w.heap.size + 1) (by first | omega | (simp; done) | (simp; omega))
    have hc2_2 := fun o => (bcell hb2).1 (w.heap.size + 2) o (by first | omega | (simp; done) | (simp; omega))
    have hf2_2 := fun o => (bcell hb2).2.1 (w.heap.size + 2) o (by first | omega | (simp; done) | (simp; omega))
    have hz2_2 := (bcell hb2).2.2 (w.heap.size + 2) (by first | omega | (simp; done) | (simp; omega))
    have HB2 := Lib.hid hb2
    clear hb2
    go_wp2
    refine bodyPost_ret (v := .tuple #[.agg #[.slice none 0 0, .slice none 0 0], .int .i64 1]) (by simp [results, Try.results42, go_sem, *]) rfl ⟨rfl, ?_⟩
    repeat' (first | (with_reducible exact Below.refl _ _) | (with_reducible (refine Below.setCell ?_ ?_ _)) | (with_reducible (refine Below.alloc ?_ ?_ _)) | (with_reducible (refine Below.drew ?_)) | (with_reducible (refine below_via ?_ HB2.out ?_)) | (with_reducible (refine below_via ?_ HB1.out ?_)) | omega | (simp; done) | (simp; omega))

set_option maxRecDepth 100000 in
set_option maxHeartbeats 4000000 in
theorem Later_full (t : Tl) (i : Inv) (w : World) (h : TlAt w t) (h1 : tlbOk t.es t.ds = true) (h2 : dueOk i = true) (h8 : 8 ≤ t.ds.length) :
    Calls Try.prog 42 #[.agg t.cells.toArray, .agg i.cells.toArray] w fun y w' => y = .returned (.tuple #[.agg #[.slice none 0 0, .slice none 0 0], .int .i64 5]) ∧ Below w.heap.size w w' := by
  have HC := Lib.hid (fun W (hb : Below w.heap.size w W) => Check_any t W (h.below hb))
  have HM := Lib.hid (fun (W : World) (b : Nat) (hb : b = W.heap.size) => imay_any (some ⟨b, 0, none⟩) 1 [i] (W.alloc (.cells i.cells.toArray invT)) (by simp) (at_lit W [i] b _ inv_len hb (by simp)))
  simp only [List.all_cons, List.all_nil, Bool.and_true] at HM
  rw [h1] at HC
  rw [h2] at HM
  have E1 : okErr true = 0 := rfl
  rw [E1] at HC
  obtain ⟨ea, ec, es, da, dc, ds⟩ := t
  dsimp only [Tl.cells] at *
  obtain ⟨i0, i1, i2, i3⟩ := i
  dsimp only [Inv.cells] at *
  have hl8 : (8 : Int) ≤ ds.length := by omega
  clear h h1 h2
  go_enter Try.func42, Try.ntmps42
  go_wp2_with fail
  refine Calls.mono (HC.out _ (by repeat' (first | (with_reducible exact Below.refl _ _) | (with_reducible (refine Below.setCell ?_ ?_ _)) | (with_reducible (refine Below.alloc ?_ ?_ _)) | (with_reducible (refine Below.drew ?_)) | omega | (simp; done) | (simp; omega)))) ?_
  rintro e w1 ⟨rfl, hb1⟩
  have hs1 := hb1.size
  try simp at hs1
  have hc1_0 := fun o => (bcell hb1).1 (w.heap.size) o (by first | omega | (simp; done) | (simp; omega))
  have hf1_0 := fun o => (bcell hb1).2.1 (w.heap.size) o (by first | omega | (simp; done) | (simp; omega))
  have hz1_0 := (bcell hb1).2.2 (w.heap.size) (by first | omega | (simp; done) | (simp; omega))
  have hc1_1 := fun o => (bcell hb1).1 (w.heap.size + 1) o (by first | omega | (simp; done) | (simp; omega))
  have hf1_1 := fun o => (bcell hb1).2.1 (w.heap.size + 1) o (by first | omega | (simp; done) | (simp; omega))
  have hz1_1 := (bcell hb1).2.2 (w.heap.size + 1) (by first | omega | (simp; done) | (simp; omega))
  have hc1_2 := fun o => (bcell hb1).1 (w.heap.size + 2) o (by first | omega | (simp; done) | (simp; omega))
  have hf1_2 := fun o => (bcell hb1).2.1 (w.heap.size + 2) o (by first | omega | (simp; done) | (simp; omega))
  have hz1_2 := (bcell hb1).2.2 (w.heap.size + 2) (by first | omega | (simp; done) | (simp; omega))
  have HB1 := Lib.hid hb1
  clear hb1
  go_wp2_with fail
  refine Calls.mono (HM.out _ _ (by simp)) ?_
  rintro e w2 ⟨rfl, hb2⟩
  have hs2 := hb2.size
  try simp at hs2
  have hc2_0 := fun o => (bcell hb2).1 (w.heap.size) o (by first | omega | (simp; done) | (simp; omega))
  have hf2_0 := fun o => (bcell hb2).2.1 (w.heap.size) o (by first | omega | (simp; done) | (simp; omega))
  have hz2_0 := (bcell hb2).2.2 (w.heap.size) (by first | omega | (simp; done) | (simp; omega))
  have hc2_1 := fun o => (bcell hb2).1 (w.heap.size + 1) o (by first | omega | (simp; done) | (simp; omega))
  have hf2_1 := fun o => (bcell hb2).2.1 (w.heap.size + 1) o (by first | omega | (simp; done) | (simp; omega))
  have hz2_1 := (bcell hb2).2.2 (w.heap.size + 1) (by first | omega | (simp; done) | (simp; omega))
  have hc2_2 := fun o => (bcell hb2).1 (w.heap.size + 2) o (by first | omega | (simp; done) | (simp; omega))
  have hf2_2 := fun o => (bcell hb2).2.1 (w.heap.size + 2) o (by first | omega | (simp; done) | (simp; omega))
  have hz2_2 := (bcell hb2).2.2 (w.heap.size + 2) (by first | omega | (simp; done) | (simp; omega))
  have HB2 := Lib.hid hb2
  clear hb2
  go_wp2
  refine bodyPost_ret (v := .tuple #[.agg #[.slice none 0 0, .slice none 0 0], .int .i64 5]) (by simp [results, Try.results42, go_sem, *]) rfl ⟨rfl, ?_⟩
  repeat' (first | (with_reducible exact Below.refl _ _) | (with_reducible (refine Below.setCell ?_ ?_ _)) | (with_reducible (refine Below.alloc ?_ ?_ _)) | (with_reducible (refine Below.drew ?_)) | (with_reducible (refine below_via ?_ HB2.out ?_)) | (with_reducible (refine below_via ?_ HB1.out ?_)) | omega | (simp; done) | (simp; omega))

set_option maxRecDepth 100000 in
set_option maxHeartbeats 4000000 in
theorem Later_yes (t : Tl) (i : Inv) (w : World) (h : TlAt w t) (h1 : tlbOk t.es t.ds = true) (h2 : dueOk i = true) (h8 : t.ds.length < 8) :
    Calls Try.prog 42 #[.agg t.cells.toArray, .agg i.cells.toArray] w fun y w' => ∃ A c B d, y = .returned (.tuple #[.agg #[.slice A t.es.length c, .slice B (t.ds ++ [i]).length d], .int .i64 0]) ∧
      Own w' (w.heap.size + 3) entT 14 Ent.cells t.es A c ∧ Own w' (w.heap.size + 3) invT 4 Inv.cells (t.ds ++ [i]) B d ∧ Below w.heap.size w w' := by
  have HC := Lib.hid (fun W (hb : Below w.heap.size w W) => Check_any t W (h.below hb))
  have HM := Lib.hid (fun (W : World) (b : Nat) (hb : b = W.heap.size) => imay_any (some ⟨b, 0, none⟩) 1 [i] (W.alloc (.cells i.cells.toArray invT)) (by simp) (at_lit W [i] b _ inv_len hb (by simp)))
  simp only [List.all_cons, List.all_nil, Bool.and_true] at HM
  obtain ⟨k1, k2, k3, k4⟩ := tlbOk_ents h1
  have HCP := Lib.hid (fun W (hb : Below w.heap.size w W) => tCopy_any t W (h.below hb) (by omega) (by omega))
  obtain ⟨ds', hds⟩ : ∃ x, x = t.ds ++ [i] := ⟨_, rfl⟩
  rw [← hds]
  have HDS := Lib.hid hds
  clear hds
  obtain ⟨j0, hi0, hz0, hz1, hz2⟩ := info_parts inv_info
  have HI0 := Lib.hid hi0
  have HZ0 := Lib.hid hz0
  have HZ1 := Lib.hid hz1
  have HZ2 := Lib.hid hz2
  clear hi0 hz0 hz1 hz2
  rw [h1] at HC
  rw [h2] at HM
  have E1 : okErr true = 0 := rfl
  rw [E1] at HC
  obtain ⟨ea, ec, es, da, dc, ds⟩ := t
  dsimp only [Tl.cells] at *
  obtain ⟨i0, i1, i2, i3⟩ := i
  dsimp only [Inv.cells] at *
  have hl8 : ¬ (8 : Int) ≤ ds.length := by omega
  clear h h1 h2 k3 k4
  go_enter Try.func42, Try.ntmps42
  go_wp2_with fail
  refine Calls.mono (HC.out _ (by repeat' (first | (with_reducible exact Below.refl _ _) | (with_reducible (refine Below.setCell ?_ ?_ _)) | (with_reducible (refine Below.alloc ?_ ?_ _)) | (with_reducible (refine Below.drew ?_)) | omega | (simp; done) | (simp; omega)))) ?_
  rintro e w1 ⟨rfl, hb1⟩
  have hs1 := hb1.size
  try simp at hs1
  have hc1_0 := fun o => (bcell hb1).1 (w.heap.size) o (by first | omega | (simp; done) | (simp; omega))
  have hf1_0 := fun o => (bcell hb1).2.1 (w.heap.size) o (by first | omega | (simp; done) | (simp; omega))
  have hz1_0 := (bcell hb1).2.2 (w.heap.size) (by first | omega | (simp; done) | (simp; omega))
  have hc1_1 := fun o => (bcell hb1).1 (w.heap.size + 1) o (by first | omega | (simp; done) | (simp; omega))
  have hf1_1 := fun o => (bcell hb1).2.1 (w.heap.size + 1) o (by first | omega | (simp; done) | (simp; omega))
  have hz1_1 := (bcell hb1).2.2 (w.heap.size + 1) (by first | omega | (simp; done) | (simp; omega))
  have hc1_2 := fun o => (bcell hb1).1 (w.heap.size + 2) o (by first | omega | (simp; done) | (simp; omega))
  have hf1_2 := fun o => (bcell hb1).2.1 (w.heap.size + 2) o (by first | omega | (simp; done) | (simp; omega))
  have hz1_2 := (bcell hb1).2.2 (w.heap.size + 2) (by first | omega | (simp; done) | (simp; omega))
  have HB1 := Lib.hid hb1
  clear hb1
  go_wp2_with fail
  refine Calls.mono (HM.out _ _ (by simp)) ?_
  rintro e w2 ⟨rfl, hb2⟩
  have hs2 := hb2.size
  try simp at hs2
  have hc2_0 := fun o => (bcell hb2).1 (w.heap.size) o (by first | omega | (simp; done) | (simp; omega))
  have hf2_0 := fun o => (bcell hb2).2.1 (w.heap.size) o (by first | omega | (simp; done) | (simp; omega))
  have hz2_0 := (bcell hb2).2.2 (w.heap.size) (by first | omega | (simp; done) | (simp; omega))
  have hc2_1 := fun o => (bcell hb2).1 (w.heap.size + 1) o (by first | omega | (simp; done) | (simp; omega))
  have hf2_1 := fun o => (bcell hb2).2.1 (w.heap.size + 1) o (by first | omega | (simp; done) | (simp; omega))
  have hz2_1 := (bcell hb2).2.2 (w.heap.size + 1) (by first | omega | (simp; done) | (simp; omega))
  have hc2_2 := fun o => (bcell hb2).1 (w.heap.size + 2) o (by first | omega | (simp; done) | (simp; omega))
  have hf2_2 := fun o => (bcell hb2).2.1 (w.heap.size + 2) o (by first | omega | (simp; done) | (simp; omega))
  have hz2_2 := (bcell hb2).2.2 (w.heap.size + 2) (by first | omega | (simp; done) | (simp; omega))
  have HB2 := Lib.hid hb2
  clear hb2
  go_wp2_with fail
  refine Calls.mono (HCP.out _ (by repeat' (first | (with_reducible exact Below.refl _ _) | (with_reducible (refine Below.setCell ?_ ?_ _)) | (with_reducible (refine Below.alloc ?_ ?_ _)) | (with_reducible (refine Below.drew ?_)) | (with_reducible (refine below_via ?_ HB2.out ?_)) | (with_reducible (refine below_via ?_ HB1.out ?_)) | omega | (simp; done) | (simp; omega)))) ?_
  rintro e w3 ⟨A, c, B, d, rfl, hown, howd, hb3⟩
  have hs3 := hb3.size
  try simp at hs3
  have hc3_0 := fun o => (bcell hb3).1 (w.heap.size) o (by first | omega | (simp; done) | (simp; omega))
  have hf3_0 := fun o => (bcell hb3).2.1 (w.heap.size) o (by first | omega | (simp; done) | (simp; omega))
  have hz3_0 := (bcell hb3).2.2 (w.heap.size) (by first | omega | (simp; done) | (simp; omega))
  have hc3_1 := fun o => (bcell hb3).1 (w.heap.size + 1) o (by first | omega | (simp; done) | (simp; omega))
  have hf3_1 := fun o => (bcell hb3).2.1 (w.heap.size + 1) o (by first | omega | (simp; done) | (simp; omega))
  have hz3_1 := (bcell hb3).2.2 (w.heap.size + 1) (by first | omega | (simp; done) | (simp; omega))
  have hc3_2 := fun o => (bcell hb3).1 (w.heap.size + 2) o (by first | omega | (simp; done) | (simp; omega))
  have hf3_2 := fun o => (bcell hb3).2.1 (w.heap.size + 2) o (by first | omega | (simp; done) | (simp; omega))
  have hz3_2 := (bcell hb3).2.2 (w.heap.size + 2) (by first | omega | (simp; done) | (simp; omega))
  have HB3 := Lib.hid hb3
  clear hb3
  have Hhown := Lib.hid hown
  clear hown
  have Hhowd := Lib.hid howd
  clear howd
  have HBX := Lib.hid (show Below w.heap.size w w3 from (by repeat' (first | (with_reducible exact Below.refl _ _) | (with_reducible (refine Below.setCell ?_ ?_ _)) | (with_reducible (refine Below.alloc ?_ ?_ _)) | (with_reducible (refine Below.drew ?_)) | (with_reducible (refine below_via ?_ HB3.out ?_)) | (with_reducible (refine below_via ?_ HB2.out ?_)) | (with_reducible (refine below_via ?_ HB1.out ?_)) | omega | (simp; done) | (simp; omega))))
  have HA3 := Lib.hid (show ∀ p : Addr, B = some p → p.block < w3.heap.size from fun p hp => (Hhowd.out.block_ hp).2)
  go_upto_region 6 with fail
  refine name_world ?_
  intro w4 hw4
  have HBY := Lib.hid (show w4.heap[w3.heap.size]? = some (.cells #[.slice A es.length c, .slice B ds.length d] tlbT (0, 0)) by rw [hw4]; exact heap_new _ _)
  have HO4 := Lib.hid (show Own w4 (w.heap.size + 3) entT 14 Ent.cells es A c by rw [hw4]; exact ((Hhown.out.mono (by simp; omega)).alloc _))
  have HI4 := Lib.hid (show Own w4 (w.heap.size + 3) invT 4 Inv.cells ds B d by rw [hw4]; exact ((Hhowd.out.mono (by simp; omega)).alloc _))
  have HB4 := Lib.hid (show Below w.heap.size w w4 by rw [hw4]; repeat' (first | (with_reducible exact Below.refl _ _) | (with_reducible (refine Below.setCell ?_ ?_ _)) | (with_reducible (refine Below.alloc ?_ ?_ _)) | (with_reducible (refine Below.drew ?_)) | (with_reducible (refine below_via ?_ HBX.out ?_)) | omega | (simp; done) | (simp; omega)))
  have HY1 := Lib.hid (show w4.heap[w.heap.size + 1]? = some (.cells #[.int .i64 i0, .int .i64 i1, .int .i64 i2, .int .i64 i3] invT (0, 0)) by rw [hw4]; exact (by repeat (first | (with_reducible assumption) | (with_reducible refine heap_below_is HB3.out (by (first | omega | (simp; done) | (simp; omega))) ?_) | (with_reducible refine heap_below_is HB2.out (by (first | omega | (simp; done) | (simp; omega))) ?_) | (with_reducible refine heap_below_is HB1.out (by (first | omega | (simp; done) | (simp; omega))) ?_) | (exact heap_at _ _ (by simp; done)) | (with_reducible refine heap_old_is _ _ (by (first | omega | (simp; done) | (simp; omega))) ?_) | (with_reducible refine heap_far_is (by (first | omega | (simp; done) | (simp; omega))) ?_))))
  have HY2 := Lib.hid (show w4.heap[w.heap.size + 2]? = some (.cells #[.slice none 0 0, .slice none 0 0] tlbT (0, 0)) by rw [hw4]; exact (by repeat (first | (with_reducible assumption) | (with_reducible refine heap_below_is HB3.out (by (first | omega | (simp; done) | (simp; omega))) ?_) | (with_reducible refine heap_below_is HB2.out (by (first | omega | (simp; done) | (simp; omega))) ?_) | (with_reducible refine heap_below_is HB1.out (by (first | omega | (simp; done) | (simp; omega))) ?_) | (exact heap_at _ _ (by simp; done)) | (with_reducible refine heap_old_is _ _ (by (first | omega | (simp; done) | (simp; omega))) ?_) | (with_reducible refine heap_far_is (by (first | omega | (simp; done) | (simp; omega))) ?_))))
  have hs4 : w4.heap.size = w3.heap.size + 1 := by rw [hw4]; simp
  have hb4 : w3.heap.size < w4.heap.size := by omega
  have hs43 : w.heap.size + 3 ≤ w3.heap.size := by omega
  clear hw4 hc1_0 hf1_0 hz1_0 hc1_1 hf1_1 hz1_1 hc1_2 hf1_2 hz1_2 hc2_0 hf2_0 hz2_0 hc2_1 hf2_1 hz2_1 hc2_2 hf2_2 hz2_2 hc3_0 hf3_0 hz3_0 hc3_1 hf3_1 hz3_1 hc3_2 hf3_2 hz3_2
  have y3 := fun j => cell_of_row _ _ j _ _ _ HBY.out
  have yf3 := fun j => frozen_of_row _ _ j _ _ HBY.out
  have y1 := fun j => cell_of_row _ _ j _ _ _ HY1.out
  have yf1 := fun j => frozen_of_row _ _ j _ _ HY1.out
  clear hs4
  go_wp2_with (at_builtin; refine wpList_one rfl (.tmp 27) (.tmp 29) _ rfl (w.heap.size + 3) invT j0 _ 4 32 Try.underlying23 HI0.out HZ0.out HZ1.out HZ2.out rfl (by omega) inv_len inv_ones ds ds' ⟨i0, i1, i2, i3⟩ HDS.out B d rfl (HI4.out.alloc _) _ rfl (heap_new _ _) (by simp only [maxLen]; omega) (by omega) (by simp; omega) ?_; intro A5 c5 w5 ho5 hb5 hk5; have HO5 := Lib.hid ho5; have HK5 := Lib.hid hk5; have HB5 := Lib.hid hb5; have hs5 := hb5.size; clear ho5 hk5 hb5; (try simp at hs5); have HX5 := Lib.hid ((HK5.out w3.heap.size (by simp; omega) (fun p hp => by have := HA3.out p hp; omega)).trans ((heap_old _ _ hb4).trans HBY.out)); have HI5 := Lib.hid ((HO4.out.alloc (.cells #[.int .i64 i0, .int .i64 i1, .int .i64 i2, .int .i64 i3] invT)).keep2 (w' := w5) (fun p hp => HK5.out p.block (by have := (HO4.out.block_ hp).2; simp; omega) (fun q hq => Own.blk_ne HI4.out HO4.out (by decide) q p hq hp))); have HY5 := Lib.hid ((HB5.out.block (w.heap.size + 2) (by omega)).trans ((heap_old _ _ (by omega)).trans HY2.out)); have x5 := fun j => cell_of_row _ _ j _ _ _ HX5.out; have xf5 := fun j => frozen_of_row _ _ j _ _ HX5.out; have r5 := fun j => cell_of_row _ _ j _ _ _ HY5.out; have rf5 := fun j => frozen_of_row _ _ j _ _ HY5.out)
  have hn1 := HO5.out.ne_blk HX5.out (by decide)
  have hn2 := HI5.out.ne_blk HX5.out (by decide)
  have HO6 := Lib.hid (fun u => HO5.out.set_ne (p := ⟨w3.heap.size, 1, none⟩) hn1 u)
  have HI6 := Lib.hid (fun u => HI5.out.set_ne (p := ⟨w3.heap.size, 1, none⟩) hn2 u)
  clear hn1 hn2
  refine bodyPost_ret (v := .tuple #[.agg #[.slice A es.length c, .slice A5 ds'.length c5], .int .i64 0]) (by simp [results, Try.results42, go_sem, *]) rfl ⟨A, c, A5, c5, rfl, ?_, ?_, ?_⟩
  · exact (((HI6.out _).set_far (by simp) _).set_far (by simp) _)
  · exact (((HO6.out _).set_far (by simp) _).set_far (by simp) _)
  · repeat' (first | (with_reducible exact Below.refl _ _) | (with_reducible (refine Below.setCell ?_ ?_ _)) | (with_reducible (refine Below.alloc ?_ ?_ _)) | (with_reducible (refine Below.drew ?_)) | (with_reducible (refine below_via ?_ HB5.out ?_)) | (with_reducible (refine below_via ?_ HB4.out ?_)) | omega | (simp; done) | (simp; omega))

/-- What both answers are, whatever comes. -/
def latX (es : List Ent) (ds : List Inv) (i : Inv) : Int := if tlbOk es ds && dueOk i then (if ds.length < 8 then 0 else 5) else 1
def latE (es : List Ent) (ds : List Inv) (i : Inv) : List Ent := if latX es ds i = 0 then es else []
def latD (es : List Ent) (ds : List Inv) (i : Inv) : List Inv := if latX es ds i = 0 then ds ++ [i] else []
theorem later_all (t : Tl) (i : Inv) (w : World) (h : TlAt w t) :
    Calls Try.prog 42 #[.agg t.cells.toArray, .agg i.cells.toArray] w fun y w' => ∃ A c B d, y = .returned (.tuple #[.agg #[.slice A (latE t.es t.ds i).length c, .slice B (latD t.es t.ds i).length d], .int .i64 (latX t.es t.ds i)]) ∧
      Own w' (w.heap.size + 3) entT 14 Ent.cells (latE t.es t.ds i) A c ∧ Own w' (w.heap.size + 3) invT 4 Inv.cells (latD t.es t.ds i) B d ∧ Below w.heap.size w w' := by
  cases hk : (tlbOk t.es t.ds && dueOk i)
  · have h0 : latX t.es t.ds i = 1 := by unfold latX; rw [hk]; rfl
    have h1 : latE t.es t.ds i = [] := by unfold latE; rw [h0]; rfl
    have h2 : latD t.es t.ds i = [] := by unfold latD; rw [h0]; rfl
    rw [h0, h1, h2]
    exact (Later_no t i w h hk).mono fun y w' ⟨e, hb⟩ => ⟨none, 0, none, 0, e, World.ownsRow_nil _ _ _ _, World.ownsRow_nil _ _ _ _, hb⟩
  · have hk2 := hk
    simp only [Bool.and_eq_true] at hk2
    by_cases h8 : t.ds.length < 8
    · have h0 : latX t.es t.ds i = 0 := by unfold latX; rw [hk, if_pos rfl, if_pos h8]
      have h1 : latE t.es t.ds i = t.es := by unfold latE; rw [if_pos h0]
      have h2 : latD t.es t.ds i = t.ds ++ [i] := by unfold latD; rw [if_pos h0]
      rw [h0, h1, h2]
      exact Later_yes t i w h hk2.1 hk2.2 h8
    · have h0 : latX t.es t.ds i = 5 := by unfold latX; rw [hk, if_pos rfl, if_neg h8]
      have h1 : latE t.es t.ds i = [] := by unfold latE; rw [h0]; rfl
      have h2 : latD t.es t.ds i = [] := by unfold latD; rw [h0]; rfl
      rw [h0, h1, h2]
      exact (Later_full t i w h hk2.1 hk2.2 (by omega)).mono fun y w' ⟨e, hb⟩ => ⟨none, 0, none, 0, e, World.ownsRow_nil _ _ _ _, World.ownsRow_nil _ _ _ _, hb⟩

end Go.Proofs.Ytbaninglcafhhaa
