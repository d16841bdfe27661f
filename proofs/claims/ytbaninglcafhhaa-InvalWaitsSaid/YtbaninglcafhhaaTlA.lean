/-
  What is remembered, copied both ways, the same. Conditions: the lengths fit.
-/
import Derived.Test.YtbaninglcafhhaaCopyE
import Derived.Test.YtbaninglcafhhaaRow
namespace Go.Proofs.Ytbaninglcafhhaa
open Go.RowKit

def TlOwn (w : World) (base : Nat) (es : List Ent) (ds : List Inv) (v : Value) : Prop := ∃ A c B d, v = .agg #[.slice A es.length c, .slice B ds.length d] ∧ Own w base entT 14 Ent.cells es A c ∧ Own w base invT 4 Inv.cells ds B d

set_option maxRecDepth 100000 in
set_option maxHeartbeats 4000000 in
theorem tCopy_any (t : Tl) (w : World) (h : TlAt w t) (h1 : t.es.length ≤ 1000000) (h2 : t.ds.length ≤ 1000000) :
    Calls Try.prog 69 #[.agg t.cells.toArray] w fun e w' => ∃ A c B d, e = .returned (.agg #[.slice A t.es.length c, .slice B t.ds.length d]) ∧ Own w' (w.heap.size + 2) entT 14 Ent.cells t.es A c ∧ Own w' (w.heap.size + 2) invT 4 Inv.cells t.ds B d ∧ Below w.heap.size w w' := by
  obtain ⟨hel, hec, hea, hdl, hdc, hda⟩ := h
  obtain ⟨ea, ec, es, da, dc, ds⟩ := t
  dsimp only [Tl.cells] at *
  have HE := Lib.hid (fun W (hb : Below w.heap.size w W) => Clone_ent ea ec es W h1 (hea.below hb))
  have HD := Lib.hid (fun W (hb : Below w.heap.size w W) => Clone_inv da dc ds W h2 (hda.below hb))
  clear hea hda
  go_enter Try.func69, Try.ntmps69
  go_wp2_with fail
  go_region_with (first
    | (go_at_call 91; refine Calls.mono (HE.out _ (by repeat' (first | (with_reducible exact Below.refl _ _) | (with_reducible (refine Below.setCell ?_ ?_ _)) | (with_reducible (refine Below.alloc ?_ ?_ _)) | (with_reducible (refine Below.drew ?_)) | omega | (simp; done) | (simp; omega)))) ?_; rintro e w1 ⟨A, c, rfl, hown1, hb1⟩; have hs1 := hb1.size; (try simp at hs1); have hc1_0 := fun o => (bcell hb1).1 (w.heap.size) o (by first | omega | (simp; done) | (simp; omega)); have hf1_0 := fun o => (bcell hb1).2.1 (w.heap.size) o (by first | omega | (simp; done) | (simp; omega)); have hz1_0 := (bcell hb1).2.2 (w.heap.size) (by first | omega | (simp; done) | (simp; omega)); have hc1_1 := fun o => (bcell hb1).1 (w.heap.size + 1) o (by first | omega | (simp; done) | (simp; omega)); have hf1_1 := fun o => (bcell hb1).2.1 (w.heap.size + 1) o (by first | omega | (simp; done) | (simp; omega)); have hz1_1 := (bcell hb1).2.2 (w.heap.size + 1) (by first | omega | (simp; done) | (simp; omega)); have HB1 := Lib.hid hb1; clear hb1; have Hhown1 := Lib.hid hown1; clear hown1)
    | (go_at_call 92; refine Calls.mono (HD.out _ (by repeat' (first | (with_reducible exact Below.refl _ _) | (with_reducible (refine Below.setCell ?_ ?_ _)) | (with_reducible (refine Below.alloc ?_ ?_ _)) | (with_reducible (refine Below.drew ?_)) | (with_reducible (refine below_via ?_ HB1.out ?_)) | omega | (simp; done) | (simp; omega)))) ?_; rintro e w2 ⟨B, d, rfl, hown2, hb2⟩; have hs2 := hb2.size; (try simp at hs2); have hc2_0 := fun o => (bcell hb2).1 (w.heap.size) o (by first | omega | (simp; done) | (simp; omega)); have hf2_0 := fun o => (bcell hb2).2.1 (w.heap.size) o (by first | omega | (simp; done) | (simp; omega)); have hz2_0 := (bcell hb2).2.2 (w.heap.size) (by first | omega | (simp; done) | (simp; omega)); have hc2_1 := fun o => (bcell hb2).1 (w.heap.size + 1) o (by first | omega | (simp; done) | (simp; omega)); have hf2_1 := fun o => (bcell hb2).2.1 (w.heap.size + 1) o (by first | omega | (simp; done) | (simp; omega)); have hz2_1 := (bcell hb2).2.2 (w.heap.size + 1) (by first | omega | (simp; done) | (simp; omega)); have HB2 := Lib.hid hb2; clear hb2; have Hhown2 := Lib.hid hown2; clear hown2))
  all_goals
    go_wp2
    refine bodyPost_ret (v := .agg #[.slice A es.length c, .slice B ds.length d]) (by simp [results, Try.results69, go_sem, *]) rfl ⟨A, c, B, d, rfl, ?_, ?_, ?_⟩
    · exact (by repeat (first | (with_reducible exact Own.mono Hhown1.out (by (first | omega | (simp; done) | (simp; omega)))) | (with_reducible refine Own.set_far ?_ (by (first | omega | (simp; done) | (simp; omega))) _) | (with_reducible refine Own.alloc ?_ _) | (with_reducible refine Own.drew ?_) | (with_reducible refine Own.below ?_ HB2.out (by (first | omega | (simp; done) | (simp; omega))))))
    · exact (by repeat (first | (with_reducible exact Own.mono Hhown2.out (by (first | omega | (simp; done) | (simp; omega)))) | (with_reducible refine Own.set_far ?_ (by (first | omega | (simp; done) | (simp; omega))) _) | (with_reducible refine Own.alloc ?_ _) | (with_reducible refine Own.drew ?_)))
    · repeat' (first | (with_reducible exact Below.refl _ _) | (with_reducible (refine Below.setCell ?_ ?_ _)) | (with_reducible (refine Below.alloc ?_ ?_ _)) | (with_reducible (refine Below.drew ?_)) | (with_reducible (refine below_via ?_ HB2.out ?_)) | (with_reducible (refine below_via ?_ HB1.out ?_)) | omega | (simp; done) | (simp; omega))

theorem CopyTLB_any (t : Tl) (w : World) (h : TlAt w t) (h1 : t.es.length ≤ 1000000) (h2 : t.ds.length ≤ 1000000) :
    Calls Try.prog 34 #[.agg t.cells.toArray] w fun e w' => ∃ A c B d, e = .returned (.agg #[.slice A t.es.length c, .slice B t.ds.length d]) ∧ Own w' (w.heap.size + 3) entT 14 Ent.cells t.es A c ∧ Own w' (w.heap.size + 3) invT 4 Inv.cells t.ds B d ∧ Below w.heap.size w w' := by
  obtain ⟨hel, hec, hea, hdl, hdc, hda⟩ := h
  obtain ⟨ea, ec, es, da, dc, ds⟩ := t
  dsimp only [Tl.cells] at *
  have HE := Lib.hid (fun W (hb : Below w.heap.size w W) => Copy_ent ea ec es W h1 (hea.below hb))
  have HD := Lib.hid (fun W (hb : Below w.heap.size w W) => Copy_inv da dc ds W h2 (hda.below hb))
  clear hea hda
  go_enter Try.func34, Try.ntmps34
  go_wp2_with fail
  refine Calls.mono (HE.out _ (by repeat' (first | (with_reducible exact Below.refl _ _) | (with_reducible (refine Below.setCell ?_ ?_ _)) | (with_reducible (refine Below.alloc ?_ ?_ _)) | (with_reducible (refine Below.drew ?_)) | omega | (simp; done) | (simp; omega)))) ?_
  rintro e w1 ⟨A, c, rfl, hown1, hb1⟩
  have hs1 := hb1.size
  try simp at hs1
  have hc1_0 := fun o => (bcell hb1).1 (w.heap.size) o (by first | omega | (simp; done) | (simp; omega))
  have hf1_0 := fun o => (bcell hb1).2.1 (w.heap.size) o (by first | omega | (simp; done) | (simp; omega))
  have hz1_0 := (bcell hb1).2.2 (w.heap.size) (by first | omega | (simp; done) | (simp; omega))
  have hc1_1 := fun o => (bcell hb1).1 (w.heap.size + 1) o (by first | omega | (simp; done) | (simp; omega))
  have hf1_1 := fun o => (bcell hb1).2.1 (w.heap.size + 1) o (by first | omega | (simp; done) | (simp; omega))
  have hz1_1 := (bcell hb1).2.2 (w.heap.size + 1) (by first | omega | (simp; done) | (simp; omega))
  have hc1_2 := fun o => (bcell hb1).1 (w.heap.size + 2) o (by first | omega | (simp; done) | (simp; omega))
  have hf1_2 := fun o => (bcell hb1).2.1 (w.heap.size + 2) o (by first | omega | (simp; done) | (simp; omega))
  have hz1_2 := (bcell hb1).2.2 (w.heap.size + 2) (by first | omega | (simp; done) | (simp; omega))
  have HB1 := Lib.hid hb1
  clear hb1
  have Hhown1 := Lib.hid hown1
  clear hown1
  go_wp2_with fail
  refine Calls.mono (HD.out _ (by repeat' (first | (with_reducible exact Below.refl _ _) | (with_reducible (refine Below.setCell ?_ ?_ _)) | (with_reducible (refine Below.alloc ?_ ?_ _)) | (with_reducible (refine Below.drew ?_)) | (with_reducible (refine below_via ?_ HB1.out ?_)) | omega | (simp; done) | (simp; omega)))) ?_
  rintro e w2 ⟨B, d, rfl, hown2, hb2⟩
  have hs2 := hb2.size
  try simp at hs2
  have hc2_0 := fun o => (bcell hb2).1 (w.heap.size) o (by first | omega | (simp; done) | (simp; omega))
  have hf2_0 := fun o => (bcell hb2).2.1 (w.heap.size) o (by first | omega | (simp; done) | (simp; omega))
  have hz2_0 := (bcell hb2).2.2 (w.heap.size) (by first | omega | (simp; done) | (simp; omega))
  have hc2_1 := fun o => (bcell hb2).1 (w.heap.size + 1) o (by first | omega | (simp; done) | (simp; omega))
  have hf2_1 := fun o => (bcell hb2).2.1 (w.heap.size + 1) o (by first | omega | (simp; done) | (simp; omega))
  have hz2_1 := (bcell hb2).2.2 (w.heap.size + 1) (by first | omega | (simp; done) | (simp; omega))
  have hc2_2 := fun o => (bcell hb2).1 (w.heap.size + 2) o (by first | omega | (simp; done) | (simp; omega))
  have hf2_2 := fun o => (bcell hb2).2.1 (w.heap.size + 2) o (by first | omega | (simp; done) | (simp; omega))
  have hz2_2 := (bcell hb2).2.2 (w.heap.size + 2) (by first | omega | (simp; done) | (simp; omega))
  have HB2 := Lib.hid hb2
  clear hb2
  have Hhown2 := Lib.hid hown2
  clear hown2
  go_wp2_with fail
  refine bodyPost_ret (v := .agg #[.slice A es.length c, .slice B ds.length d]) (by simp [results, Try.results34, go_sem, *]) rfl ⟨A, c, B, d, rfl, ?_, ?_, ?_⟩
  · exact (by repeat (first | (with_reducible exact Own.mono Hhown1.out (by (first | omega | (simp; done) | (simp; omega)))) | (with_reducible refine Own.set_far ?_ (by (first | omega | (simp; done) | (simp; omega))) _) | (with_reducible refine Own.alloc ?_ _) | (with_reducible refine Own.drew ?_) | (with_reducible refine Own.below ?_ HB2.out (by (first | omega | (simp; done) | (simp; omega))))))
  · exact (by repeat (first | (with_reducible exact Own.mono Hhown2.out (by (first | omega | (simp; done) | (simp; omega)))) | (with_reducible refine Own.set_far ?_ (by (first | omega | (simp; done) | (simp; omega))) _) | (with_reducible refine Own.alloc ?_ _) | (with_reducible refine Own.drew ?_)))
  · repeat' (first | (with_reducible exact Below.refl _ _) | (with_reducible (refine Below.setCell ?_ ?_ _)) | (with_reducible (refine Below.alloc ?_ ?_ _)) | (with_reducible (refine Below.drew ?_)) | (with_reducible (refine below_via ?_ HB2.out ?_)) | (with_reducible (refine below_via ?_ HB1.out ?_)) | omega | (simp; done) | (simp; omega))

set_option maxHeartbeats 1000000 in
theorem EqTLB_same (t u : Tl) (w : World) (h : TlAt w t) (h2 : TlAt w u) (he : t.es = u.es) (hd : t.ds = u.ds) :
    Calls Try.prog 39 #[.agg t.cells.toArray, .agg u.cells.toArray] w fun e w' => e = .returned (.bool true) ∧ Below w.heap.size w w' := by
  obtain ⟨hel, hec, hea, hdl, hdc, hda⟩ := h
  obtain ⟨hel2, hec2, hea2, hdl2, hdc2, hda2⟩ := h2
  obtain ⟨ea, ec, es, da, dc, ds⟩ := t
  obtain ⟨ea2, ec2, es2, da2, dc2, ds2⟩ := u
  dsimp only [Tl.cells] at *
  subst he hd
  have HE := Lib.hid (fun W (hb : Below w.heap.size w W) => Eq_ent ea ea2 ec ec2 es W hel (hea.below hb) (hea2.below hb))
  have HD := Lib.hid (fun W (hb : Below w.heap.size w W) => Eq_inv da da2 dc dc2 ds W hdl (hda.below hb) (hda2.below hb))
  clear hea hda hea2 hda2
  go_enter Try.func39, Try.ntmps39
  go_wp2_with fail
  refine Calls.mono (HE.out _ (by repeat' (first | (with_reducible exact Below.refl _ _) | (with_reducible (refine Below.setCell ?_ ?_ _)) | (with_reducible (refine Below.alloc ?_ ?_ _)) | (with_reducible (refine Below.drew ?_)) | omega | (simp; done) | (simp; omega)))) ?_
  rintro e w1 ⟨rfl, hb1⟩
  have hs1 := hb1.size
  try simp at hs1
  have hc1_0 := fun o => (bcell hb1).1 (w.heap.size) o (by first | omega | (simp; done) | (simp; omega))
  have hf1_0 := fun o => (bcell hb1).2.1 (w.heap.size) o (by first | omega | (simp; done) | (simp; omega))
  have hz1_0 := (bcell hb1).2.2 (w.heap.size) (by first | omega | (simp; done) | (simp; omega))
  have hc1_1 := fun o => (bcell hb1).1 (w.heap.size + 1) o (by first | omega | (simp; done) | (simp; omega))
  have hf1_1 := fun o => (bcell hb1).2.1 (w.heap.size + 1) o (by first | omega | (simp; done) | (simp; omega))
  have hz1_1 := (bcell hb1).2.2 (w.heap.size + 1) (by first | omega | (simp; done) | (simp; omega))
  have HB1 := Lib.hid hb1
  clear hb1
  go_wp2_with fail
  refine Calls.mono (HD.out _ (by repeat' (first | (with_reducible exact Below.refl _ _) | (with_reducible (refine Below.setCell ?_ ?_ _)) | (with_reducible (refine Below.alloc ?_ ?_ _)) | (with_reducible (refine Below.drew ?_)) | (with_reducible (refine below_via ?_ HB1.out ?_)) | omega | (simp; done) | (simp; omega)))) ?_
  rintro e w2 ⟨rfl, hb2⟩
  have hs2 := hb2.size
  try simp at hs2
  have HB2 := Lib.hid hb2
  clear hb2
  go_wp2
  go_ret
  exact ⟨rfl, (by repeat' (first | (with_reducible exact Below.refl _ _) | (with_reducible (refine Below.setCell ?_ ?_ _)) | (with_reducible (refine Below.alloc ?_ ?_ _)) | (with_reducible (refine Below.drew ?_)) | (with_reducible (refine below_via ?_ HB2.out ?_)) | (with_reducible (refine below_via ?_ HB1.out ?_)) | omega | (simp; done) | (simp; omega)))⟩

end Go.Proofs.Ytbaninglcafhhaa
