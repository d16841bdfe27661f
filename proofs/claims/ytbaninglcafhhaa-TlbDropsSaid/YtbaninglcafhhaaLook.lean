/-
  The searches by their names; 'wakes' of layer 9. Conditions: it reads.
-/
import Derived.Test.YtbaninglcafhhaaScr
namespace Go.Proofs.Ytbaninglcafhhaa
open Go.RowKit

set_option maxRecDepth 100000 in
set_option maxHeartbeats 2000000 in
theorem Mid_no (t : Tl) (vmid mid acc : Int) (w : World) (h : TlAt w t) (hno : lookOk t vmid 0 mid acc = false) :
    Calls Try.prog 31 #[.agg t.cells.toArray, .int .i64 vmid, .int .i64 mid, .int .i64 acc] w fun y w' => y = .returned (.tuple #[.agg #[.int .i64 0, .int .i64 0, .int .i64 0, .bool false, .int .i64 0, .int .i64 0, .int .i64 0, .int .i64 0, .bool false, .bool false, .bool false, .bool false, .bool false, .int .i64 0], .int .i64 1]) ∧ Below w.heap.size w w' := by
  have HF := Lib.hid (fun W (hb : Below w.heap.size w W) => found_no t 2 vmid 0 mid acc W (h.below hb) hno)
  obtain ⟨ea, ec, es, da, dc, ds⟩ := t
  dsimp only [Tl.cells] at *
  clear h hno
  go_enter Try.func31, Try.ntmps31
  go_wp2_with fail
  refine Calls.mono (HF.out _ (by repeat' (first | (with_reducible exact Below.refl _ _) | (with_reducible (refine Below.setCell ?_ ?_ _)) | (with_reducible (refine Below.alloc ?_ ?_ _)) | (with_reducible (refine Below.drew ?_)) | omega | (simp; done) | (simp; omega)))) ?_
  rintro e w1 ⟨rfl, hb1⟩
  have hs1 := hb1.size
  try simp at hs1
  have hc1_0 := fun o => (bcell hb1).1 (w.heap.size) o (by first | omega | (simp; done) | (simp; omega))
  have hf1_0 := fun o => (bcell hb1).2.1 (w.heap.size) o (by first | omega | (simp; done) | (simp; omega))
  have hz1_0 := (bcell hb1).2.2 (w.heap.size) (by first | omega | (simp; done) | (simp; omega))
  have hc1_1 := fun o => (bcell hb1).1 (w.heap.size + 1) o (by first | omega | (simp; done) | (simp; omega))
  have hf1_1 := fun o => (bcell hb1).2.1 (w.heap.size + 1) o (by first | omega | (simp; done) | (simp; omega))
  have hz1_1 := (bcell hb1).2.2 (w.heap.size + 1) (by first | omega | (simp; done) | (simp; omega))
  have HB1 := Lib.hid hb1
  clear hb1
  go_wp2
  refine bodyPost_ret (v := .tuple #[.agg #[.int .i64 0, .int .i64 0, .int .i64 0, .bool false, .int .i64 0, .int .i64 0, .int .i64 0, .int .i64 0, .bool false, .bool false, .bool false, .bool false, .bool false, .int .i64 0], .int .i64 1]) (by simp [results, Try.results31, go_sem, *]) rfl ⟨rfl, ?_⟩
  repeat' (first | (with_reducible exact Below.refl _ _) | (with_reducible (refine Below.setCell ?_ ?_ _)) | (with_reducible (refine Below.alloc ?_ ?_ _)) | (with_reducible (refine Below.drew ?_)) | (with_reducible (refine below_via ?_ HB1.out ?_)) | omega | (simp; done) | (simp; omega))

set_option maxRecDepth 100000 in
set_option maxHeartbeats 2000000 in
theorem Mid_yes (t : Tl) (vmid mid acc : Int) (w : World) (h : TlAt w t) (hok : lookOk t vmid 0 mid acc = true) :
    Calls Try.prog 31 #[.agg t.cells.toArray, .int .i64 vmid, .int .i64 mid, .int .i64 acc] w fun y w' => y = .returned (.tuple #[.agg (foundR t.es (fun e => ofE e 2 vmid 0 mid && letsE e acc)).cells.toArray, .int .i64 (foundX t.es (fun e => ofE e 2 vmid 0 mid && letsE e acc))]) ∧ Below w.heap.size w w' := by
  have HF := Lib.hid (fun W (hb : Below w.heap.size w W) => found_yes t 2 vmid 0 mid acc W (h.below hb) hok)
  obtain ⟨ea, ec, es, da, dc, ds⟩ := t
  dsimp only [Tl.cells] at *
  generalize foundR es _ = r at *
  generalize foundX es _ = fx at *
  obtain ⟨a0, a1, a2, a3, a4, a5, a6, a7, a8, a9, a10, a11, a12, a13⟩ := r
  dsimp only [Ent.cells] at *
  clear h hok
  go_enter Try.func31, Try.ntmps31
  go_wp2_with fail
  refine Calls.mono (HF.out _ (by repeat' (first | (with_reducible exact Below.refl _ _) | (with_reducible (refine Below.setCell ?_ ?_ _)) | (with_reducible (refine Below.alloc ?_ ?_ _)) | (with_reducible (refine Below.drew ?_)) | omega | (simp; done) | (simp; omega)))) ?_
  rintro e w1 ⟨rfl, hb1⟩
  have hs1 := hb1.size
  try simp at hs1
  have hc1_0 := fun o => (bcell hb1).1 (w.heap.size) o (by first | omega | (simp; done) | (simp; omega))
  have hf1_0 := fun o => (bcell hb1).2.1 (w.heap.size) o (by first | omega | (simp; done) | (simp; omega))
  have hz1_0 := (bcell hb1).2.2 (w.heap.size) (by first | omega | (simp; done) | (simp; omega))
  have hc1_1 := fun o => (bcell hb1).1 (w.heap.size + 1) o (by first | omega | (simp; done) | (simp; omega))
  have hf1_1 := fun o => (bcell hb1).2.1 (w.heap.size + 1) o (by first | omega | (simp; done) | (simp; omega))
  have hz1_1 := (bcell hb1).2.2 (w.heap.size + 1) (by first | omega | (simp; done) | (simp; omega))
  have HB1 := Lib.hid hb1
  clear hb1
  go_wp2
  refine bodyPost_ret (v := .tuple #[.agg #[.int .i64 a0, .int .i64 a1, .int .i64 a2, .bool a3, .int .i64 a4, .int .i64 a5, .int .i64 a6, .int .i64 a7, .bool a8, .bool a9, .bool a10, .bool a11, .bool a12, .int .i64 a13], .int .i64 fx]) (by simp [results, Try.results31, go_sem, *]) rfl ⟨rfl, ?_⟩
  repeat' (first | (with_reducible exact Below.refl _ _) | (with_reducible (refine Below.setCell ?_ ?_ _)) | (with_reducible (refine Below.alloc ?_ ?_ _)) | (with_reducible (refine Below.drew ?_)) | (with_reducible (refine below_via ?_ HB1.out ?_)) | omega | (simp; done) | (simp; omega))

set_option maxRecDepth 100000 in
set_option maxHeartbeats 2000000 in
theorem Whole_no (t : Tl) (vmid asid page acc : Int) (w : World) (h : TlAt w t) (hno : lookOk t vmid asid page acc = false) :
    Calls Try.prog 55 #[.agg t.cells.toArray, .int .i64 vmid, .int .i64 asid, .int .i64 page, .int .i64 acc] w fun y w' => y = .returned (.tuple #[.agg #[.int .i64 0, .int .i64 0, .int .i64 0, .bool false, .int .i64 0, .int .i64 0, .int .i64 0, .int .i64 0, .bool false, .bool false, .bool false, .bool false, .bool false, .int .i64 0], .int .i64 1]) ∧ Below w.heap.size w w' := by
  have HF := Lib.hid (fun W (hb : Below w.heap.size w W) => found_no t 1 vmid asid page acc W (h.below hb) hno)
  obtain ⟨ea, ec, es, da, dc, ds⟩ := t
  dsimp only [Tl.cells] at *
  clear h hno
  go_enter Try.func55, Try.ntmps55
  go_wp2_with fail
  refine Calls.mono (HF.out _ (by repeat' (first | (with_reducible exact Below.refl _ _) | (with_reducible (refine Below.setCell ?_ ?_ _)) | (with_reducible (refine Below.alloc ?_ ?_ _)) | (with_reducible (refine Below.drew ?_)) | omega | (simp; done) | (simp; omega)))) ?_
  rintro e w1 ⟨rfl, hb1⟩
  have hs1 := hb1.size
  try simp at hs1
  have hc1_0 := fun o => (bcell hb1).1 (w.heap.size) o (by first | omega | (simp; done) | (simp; omega))
  have hf1_0 := fun o => (bcell hb1).2.1 (w.heap.size) o (by first | omega | (simp; done) | (simp; omega))
  have hz1_0 := (bcell hb1).2.2 (w.heap.size) (by first | omega | (simp; done) | (simp; omega))
  have hc1_1 := fun o => (bcell hb1).1 (w.heap.size + 1) o (by first | omega | (simp; done) | (simp; omega))
  have hf1_1 := fun o => (bcell hb1).2.1 (w.heap.size + 1) o (by first | omega | (simp; done) | (simp; omega))
  have hz1_1 := (bcell hb1).2.2 (w.heap.size + 1) (by first | omega | (simp; done) | (simp; omega))
  have HB1 := Lib.hid hb1
  clear hb1
  go_wp2
  refine bodyPost_ret (v := .tuple #[.agg #[.int .i64 0, .int .i64 0, .int .i64 0, .bool false, .int .i64 0, .int .i64 0, .int .i64 0, .int .i64 0, .bool false, .bool false, .bool false, .bool false, .bool false, .int .i64 0], .int .i64 1]) (by simp [results, Try.results55, go_sem, *]) rfl ⟨rfl, ?_⟩
  repeat' (first | (with_reducible exact Below.refl _ _) | (with_reducible (refine Below.setCell ?_ ?_ _)) | (with_reducible (refine Below.alloc ?_ ?_ _)) | (with_reducible (refine Below.drew ?_)) | (with_reducible (refine below_via ?_ HB1.out ?_)) | omega | (simp; done) | (simp; omega))

set_option maxRecDepth 100000 in
set_option maxHeartbeats 2000000 in
theorem Whole_yes (t : Tl) (vmid asid page acc : Int) (w : World) (h : TlAt w t) (hok : lookOk t vmid asid page acc = true) :
    Calls Try.prog 55 #[.agg t.cells.toArray, .int .i64 vmid, .int .i64 asid, .int .i64 page, .int .i64 acc] w fun y w' => y = .returned (.tuple #[.agg (foundR t.es (fun e => ofE e 1 vmid asid page && letsE e acc)).cells.toArray, .int .i64 (foundX t.es (fun e => ofE e 1 vmid asid page && letsE e acc))]) ∧ Below w.heap.size w w' := by
  have HF := Lib.hid (fun W (hb : Below w.heap.size w W) => found_yes t 1 vmid asid page acc W (h.below hb) hok)
  obtain ⟨ea, ec, es, da, dc, ds⟩ := t
  dsimp only [Tl.cells] at *
  generalize foundR es _ = r at *
  generalize foundX es _ = fx at *
  obtain ⟨a0, a1, a2, a3, a4, a5, a6, a7, a8, a9, a10, a11, a12, a13⟩ := r
  dsimp only [Ent.cells] at *
  clear h hok
  go_enter Try.func55, Try.ntmps55
  go_wp2_with fail
  refine Calls.mono (HF.out _ (by repeat' (first | (with_reducible exact Below.refl _ _) | (with_reducible (refine Below.setCell ?_ ?_ _)) | (with_reducible (refine Below.alloc ?_ ?_ _)) | (with_reducible (refine Below.drew ?_)) | omega | (simp; done) | (simp; omega)))) ?_
  rintro e w1 ⟨rfl, hb1⟩
  have hs1 := hb1.size
  try simp at hs1
  have hc1_0 := fun o => (bcell hb1).1 (w.heap.size) o (by first | omega | (simp; done) | (simp; omega))
  have hf1_0 := fun o => (bcell hb1).2.1 (w.heap.size) o (by first | omega | (simp; done) | (simp; omega))
  have hz1_0 := (bcell hb1).2.2 (w.heap.size) (by first | omega | (simp; done) | (simp; omega))
  have hc1_1 := fun o => (bcell hb1).1 (w.heap.size + 1) o (by first | omega | (simp; done) | (simp; omega))
  have hf1_1 := fun o => (bcell hb1).2.1 (w.heap.size + 1) o (by first | omega | (simp; done) | (simp; omega))
  have hz1_1 := (bcell hb1).2.2 (w.heap.size + 1) (by first | omega | (simp; done) | (simp; omega))
  have HB1 := Lib.hid hb1
  clear hb1
  go_wp2
  refine bodyPost_ret (v := .tuple #[.agg #[.int .i64 a0, .int .i64 a1, .int .i64 a2, .bool a3, .int .i64 a4, .int .i64 a5, .int .i64 a6, .int .i64 a7, .bool a8, .bool a9, .bool a10, .bool a11, .bool a12, .int .i64 a13], .int .i64 fx]) (by simp [results, Try.results55, go_sem, *]) rfl ⟨rfl, ?_⟩
  repeat' (first | (with_reducible exact Below.refl _ _) | (with_reducible (refine Below.setCell ?_ ?_ _)) | (with_reducible (refine Below.alloc ?_ ?_ _)) | (with_reducible (refine Below.drew ?_)) | (with_reducible (refine below_via ?_ HB1.out ?_)) | omega | (simp; done) | (simp; omega))

def wakeE : Ent := ⟨2, 0, 0, true, 3, 0, 4, 0, true, false, false, false, false, 0⟩
theorem wakeE_ok : entOk wakeE = true := by decide +kernel
theorem wake_fill : fillE [] wakeE = [wakeE] := by
  unfold fillE
  rw [if_pos (by decide +kernel)]
  rfl
theorem wake_tlb : tlbOk [] [] = true := by decide +kernel
theorem wake_look (A : Option Addr) (c : Nat) (B : Option Addr) (d : Nat) : lookOk ⟨A, c, [wakeE], B, d, []⟩ 0 0 3 0 = true := by
  unfold lookOk; dsimp only; decide +kernel
theorem wake_found : foundR [wakeE] (fun e => ofE e 2 0 0 3 && letsE e 0) = wakeE ∧ foundX [wakeE] (fun e => ofE e 2 0 0 3 && letsE e 0) = 0 :=
  found_hit (k := 0) (by simp) (by simp) rfl (by decide +kernel)

set_option maxRecDepth 100000 in
set_option maxHeartbeats 2000000 in
theorem wakes9_any (w : World) : Calls Try.prog 32 #[] w fun e w' => e = .returned (.bool true) ∧ Below w.heap.size w w' := by
  have HF := Lib.hid (fun W => Fill_yes ⟨none, 0, [], none, 0, []⟩ wakeE W ⟨by simp, Nat.zero_le _, At.nil, by simp, Nat.zero_le _, At.nil⟩ wake_tlb wakeE_ok)
  have HM := Lib.hid (fun A c B d W (h : TlAt W ⟨A, c, [wakeE], B, d, []⟩) => Mid_yes ⟨A, c, [wakeE], B, d, []⟩ 0 3 0 W h (wake_look A c B d))
  have HNU := Lib.hid (fun (n : Int) W => num9_any n W)
  have HAT := Lib.hid (fun (w : World) A c B d b1 b2 (h1 : Own w b1 entT 14 Ent.cells [wakeE] A c) (h2 : Own w b2 invT 4 Inv.cells [] B d) => TlAt.of_own (ds := []) h1 h2 (by simp) (by simp))
  dsimp only at HF HM
  rw [wake_fill] at HF
  rw [wake_found.1, wake_found.2] at HM
  simp only [Tl.cells, Ent.cells, wakeE, List.length_cons, List.length_nil, Nat.zero_add] at HF HM
  go_enter Try.func32, Try.ntmps32
  go_wp2_with fail
  refine Calls.mono (HF.out _) ?_
  rintro e w1 ⟨A, c, B, d, rfl, ho, hi, hb1⟩
  have hs1 := hb1.size
  try simp at hs1
  have HB1 := Lib.hid hb1
  clear hb1
  have Hho := Lib.hid ho
  clear ho
  have Hhi := Lib.hid hi
  clear hi
  go_wp2_with fail
  refine Calls.mono (HM.out A c B d _ ((HAT.out _ A c B d _ _ Hho.out Hhi.out).below (by repeat' (first | (with_reducible exact Below.refl _ _) | (with_reducible (refine Below.setCell ?_ ?_ _)) | (with_reducible (refine Below.alloc ?_ ?_ _)) | (with_reducible (refine Below.drew ?_)) | omega | (simp; done) | (simp; omega))))) ?_
  rintro e w2 ⟨rfl, hb2⟩
  have hs2 := hb2.size
  try simp at hs2
  have HB2 := Lib.hid hb2
  clear hb2
  go_wp2_with (go_at_call 28; refine (HNU.out _ _).mono ?_; rintro e w' ⟨rfl, rfl⟩)
  go_ret
  exact ⟨rfl, (by repeat' (first | (with_reducible exact Below.refl _ _) | (with_reducible (refine Below.setCell ?_ ?_ _)) | (with_reducible (refine Below.alloc ?_ ?_ _)) | (with_reducible (refine Below.drew ?_)) | (with_reducible (refine below_via ?_ HB2.out ?_)) | (with_reducible (refine below_via ?_ HB1.out ?_)) | omega | (simp; done) | (simp; omega)))⟩

end Go.Proofs.Ytbaninglcafhhaa
