/-
  The statements of one kind of act: 'kind' of it. Conditions: the argument reads as such.
-/
import Derived.Test.YtbaninglcafhhaaExact
import Derived.Test.YtbaninglcafhhaaKinds
namespace Go.Proofs.Ytbaninglcafhhaa
open Go.RowKit

theorem tlbWholes_walk (q : ScrT) (w : World) (hq : ScrAt w q) :
    Calls Try.prog 15 #[.agg q.cells.toArray] w fun e w' => e = .returned (.bool true) ∧ Below w.heap.size w w' := by
  have HC := Lib.hid (fun W (hb : Below w.heap.size w W) => kind9_any tlbExact_walk q 4 W (hq.below hb) ⟨by decide, by decide⟩)
  obtain ⟨⟨ea, ec, es0, da, dc, ds0⟩, la, lc, l⟩ := q
  dsimp only [ScrT.cells] at *
  clear hq
  go_enter Try.func15, Try.ntmps15
  go_wp2_with fail
  refine Calls.mono (HC.out _ (by repeat' (first | (with_reducible exact Below.refl _ _) | (with_reducible (refine Below.setCell ?_ ?_ _)) | (with_reducible (refine Below.alloc ?_ ?_ _)) | (with_reducible (refine Below.drew ?_)) | omega | (simp; done) | (simp; omega)))) ?_
  rintro e w1 ⟨rfl, hb1⟩
  have hs1 := hb1.size
  try simp at hs1
  have HB1 := Lib.hid hb1
  clear hb1
  go_wp2
  go_ret
  exact ⟨rfl, (by repeat' (first | (with_reducible exact Below.refl _ _) | (with_reducible (refine Below.setCell ?_ ?_ _)) | (with_reducible (refine Below.alloc ?_ ?_ _)) | (with_reducible (refine Below.drew ?_)) | (with_reducible (refine below_via ?_ HB1.out ?_)) | omega | (simp; done) | (simp; omega)))⟩
theorem tlbMids_walk (q : ScrT) (w : World) (hq : ScrAt w q) :
    Calls Try.prog 16 #[.agg q.cells.toArray] w fun e w' => e = .returned (.bool true) ∧ Below w.heap.size w w' := by
  have HC := Lib.hid (fun W (hb : Below w.heap.size w W) => kind9_any tlbExact_walk q 5 W (hq.below hb) ⟨by decide, by decide⟩)
  obtain ⟨⟨ea, ec, es0, da, dc, ds0⟩, la, lc, l⟩ := q
  dsimp only [ScrT.cells] at *
  clear hq
  go_enter Try.func16, Try.ntmps16
  go_wp2_with fail
  refine Calls.mono (HC.out _ (by repeat' (first | (with_reducible exact Below.refl _ _) | (with_reducible (refine Below.setCell ?_ ?_ _)) | (with_reducible (refine Below.alloc ?_ ?_ _)) | (with_reducible (refine Below.drew ?_)) | omega | (simp; done) | (simp; omega)))) ?_
  rintro e w1 ⟨rfl, hb1⟩
  have hs1 := hb1.size
  try simp at hs1
  have HB1 := Lib.hid hb1
  clear hb1
  go_wp2
  go_ret
  exact ⟨rfl, (by repeat' (first | (with_reducible exact Below.refl _ _) | (with_reducible (refine Below.setCell ?_ ?_ _)) | (with_reducible (refine Below.alloc ?_ ?_ _)) | (with_reducible (refine Below.drew ?_)) | (with_reducible (refine below_via ?_ HB1.out ?_)) | omega | (simp; done) | (simp; omega)))⟩
theorem tlbWalks_walk (q : ScrT) (w : World) (hq : ScrAt w q) :
    Calls Try.prog 17 #[.agg q.cells.toArray] w fun e w' => e = .returned (.bool true) ∧ Below w.heap.size w w' := by
  have HC := Lib.hid (fun W (hb : Below w.heap.size w W) => kind9_any tlbExact_walk q 6 W (hq.below hb) ⟨by decide, by decide⟩)
  obtain ⟨⟨ea, ec, es0, da, dc, ds0⟩, la, lc, l⟩ := q
  dsimp only [ScrT.cells] at *
  clear hq
  go_enter Try.func17, Try.ntmps17
  go_wp2_with fail
  refine Calls.mono (HC.out _ (by repeat' (first | (with_reducible exact Below.refl _ _) | (with_reducible (refine Below.setCell ?_ ?_ _)) | (with_reducible (refine Below.alloc ?_ ?_ _)) | (with_reducible (refine Below.drew ?_)) | omega | (simp; done) | (simp; omega)))) ?_
  rintro e w1 ⟨rfl, hb1⟩
  have hs1 := hb1.size
  try simp at hs1
  have HB1 := Lib.hid hb1
  clear hb1
  go_wp2
  go_ret
  exact ⟨rfl, (by repeat' (first | (with_reducible exact Below.refl _ _) | (with_reducible (refine Below.setCell ?_ ?_ _)) | (with_reducible (refine Below.alloc ?_ ?_ _)) | (with_reducible (refine Below.drew ?_)) | (with_reducible (refine below_via ?_ HB1.out ?_)) | omega | (simp; done) | (simp; omega)))⟩
theorem tlbDrops_walk (q : ScrT) (w : World) (hq : ScrAt w q) :
    Calls Try.prog 18 #[.agg q.cells.toArray] w fun e w' => e = .returned (.bool true) ∧ Below w.heap.size w w' := by
  have HC := Lib.hid (fun W (hb : Below w.heap.size w W) => kind9_any tlbExact_walk q 3 W (hq.below hb) ⟨by decide, by decide⟩)
  obtain ⟨⟨ea, ec, es0, da, dc, ds0⟩, la, lc, l⟩ := q
  dsimp only [ScrT.cells] at *
  clear hq
  go_enter Try.func18, Try.ntmps18
  go_wp2_with fail
  refine Calls.mono (HC.out _ (by repeat' (first | (with_reducible exact Below.refl _ _) | (with_reducible (refine Below.setCell ?_ ?_ _)) | (with_reducible (refine Below.alloc ?_ ?_ _)) | (with_reducible (refine Below.drew ?_)) | omega | (simp; done) | (simp; omega)))) ?_
  rintro e w1 ⟨rfl, hb1⟩
  have hs1 := hb1.size
  try simp at hs1
  have HB1 := Lib.hid hb1
  clear hb1
  go_wp2
  go_ret
  exact ⟨rfl, (by repeat' (first | (with_reducible exact Below.refl _ _) | (with_reducible (refine Below.setCell ?_ ?_ _)) | (with_reducible (refine Below.alloc ?_ ?_ _)) | (with_reducible (refine Below.drew ?_)) | (with_reducible (refine below_via ?_ HB1.out ?_)) | omega | (simp; done) | (simp; omega)))⟩

end Go.Proofs.Ytbaninglcafhhaa
