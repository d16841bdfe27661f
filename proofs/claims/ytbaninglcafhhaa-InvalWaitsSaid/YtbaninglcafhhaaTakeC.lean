/-
  Whether something takes an entry away: the exported function, both answers to what may be. Conditions: none.
-/
import Derived.Test.YtbaninglcafhhaaTakeA
import Derived.Test.YtbaninglcafhhaaChkA
namespace Go.Proofs.Ytbaninglcafhhaa
open Go.RowKit

theorem one_due (i : Inv) : tlbOk [] [i] = dueOk i := by
  rw [tlbOk_eq]; simp
theorem one_ent (e : Ent) : tlbOk [e] [] = entOk e := by
  rw [tlbOk_eq]; simp [entGood]
theorem okErr_ne (b : Bool) : (okErr b != 0) = !b := by cases b <;> rfl

set_option maxHeartbeats 1000000 in
theorem imay1_any (i : Inv) (w : World) : Calls Try.prog 86 #[.agg i.cells.toArray] w fun e w' => e = .returned (.bool (!dueOk i)) ∧ Below w.heap.size w w' := by
  have HC := Lib.hid (fun (W : World) (b : Nat) (hb : b = W.heap.size) => Check_any ⟨none, 0, [], some ⟨b, 0, none⟩, 1, [i]⟩ (W.alloc (.cells i.cells.toArray invT)) ⟨by simp, Nat.zero_le _, At.nil, by simp, by simp, at_lit W [i] b _ inv_len hb (by simp)⟩)
  dsimp only at HC
  rw [one_due] at HC
  generalize dueOk i = g at *
  obtain ⟨ki, vmi, asi, pgi⟩ := i
  dsimp only [Inv.cells, Tl.cells, List.length_nil, List.length_cons, Nat.zero_add] at *
  cases g
  · go_enter Try.func86, Try.ntmps86
    go_wp2_with fail
    refine Calls.mono (HC.out _ _ (by simp)) ?_
    rintro e w1 ⟨rfl, hb1⟩
    have hs1 := hb1.size
    try simp at hs1
    have HB1 := Lib.hid hb1
    clear hb1
    go_wp2
    go_ret
    exact ⟨rfl, (by repeat' (first | (with_reducible exact Below.refl _ _) | (with_reducible (refine Below.setCell ?_ ?_ _)) | (with_reducible (refine Below.alloc ?_ ?_ _)) | (with_reducible (refine Below.drew ?_)) | (with_reducible (refine below_via ?_ HB1.out ?_)) | omega | (simp; done) | (simp; omega)))⟩
  · go_enter Try.func86, Try.ntmps86
    go_wp2_with fail
    refine Calls.mono (HC.out _ _ (by simp)) ?_
    rintro e w1 ⟨rfl, hb1⟩
    have hs1 := hb1.size
    try simp at hs1
    have HB1 := Lib.hid hb1
    clear hb1
    go_wp2
    go_ret
    exact ⟨rfl, (by repeat' (first | (with_reducible exact Below.refl _ _) | (with_reducible (refine Below.setCell ?_ ?_ _)) | (with_reducible (refine Below.alloc ?_ ?_ _)) | (with_reducible (refine Below.drew ?_)) | (with_reducible (refine below_via ?_ HB1.out ?_)) | omega | (simp; done) | (simp; omega)))⟩

theorem imay_any (L : Option Addr) (cl : Nat) (l : List Inv) (w : World) (hl : l.length ≤ 140737488355328) (hL : At w L 4 Inv.cells l) :
    Calls Try.prog 65 #[.slice L l.length cl] w fun e w' => e = .returned (.bool (l.all dueOk)) ∧ Below w.heap.size w w' := by
  have HI := Lib.hid (ContainsFunc_inv0 86 (fun i => !dueOk i) L cl l w hl hL (fun _ _ => by kernel_rfl) (fun W' x _ _ => imay1_any x W'))
  rw [show (l.any fun i => !dueOk i) = !(l.all dueOk) by rw [List.not_all_eq_any_not]] at HI
  generalize l.all dueOk = g at *
  clear hL
  go_enter Try.func65, Try.ntmps65
  go_wp2_with fail
  refine Calls.mono (HI.out) ?_
  rintro e w1 ⟨rfl, hb1⟩
  have hs1 := hb1.size
  try simp at hs1
  have HB1 := Lib.hid hb1
  clear hb1
  go_wp2
  go_ret
  exact ⟨by cases g <;> rfl, HB1.out⟩

def takesOk (i : Inv) (e : Ent) : Bool := dueOk i && entOk e
def takesRes (i : Inv) (e : Ent) : Bool := takesOk i e && takesE i e

set_option maxRecDepth 100000 in
set_option maxHeartbeats 4000000 in
theorem Takes_any (i : Inv) (e : Ent) (w : World) : Calls Try.prog 20 #[.agg i.cells.toArray, .agg e.cells.toArray] w fun y w' => y = .returned (.tuple #[.bool (takesRes i e), .int .i64 (okErr (takesOk i e))]) ∧ Below w.heap.size w w' := by
  have HM := Lib.hid (fun (W : World) (b : Nat) (hb : b = W.heap.size) => imay_any (some ⟨b, 0, none⟩) 1 [i] (W.alloc (.cells i.cells.toArray invT)) (by simp) (at_lit W [i] b _ inv_len hb (by simp)))
  rw [show [i].all dueOk = dueOk i by simp] at HM
  have HC := Lib.hid (fun (W : World) (b : Nat) (hb : b = W.heap.size) => Check_any ⟨some ⟨b, 0, none⟩, 1, [e], none, 0, []⟩ (W.alloc (.cells e.cells.toArray entT)) ⟨by simp, by simp, at_lit W [e] b _ ent_len hb (by simp), by simp, Nat.zero_le _, At.nil⟩)
  dsimp only at HC
  rw [one_ent] at HC
  have HT := Lib.hid (fun W (h1 : dueOk i = true) (h2 : entOk e = true) => takes_any i e W h2 (dueOk_page h1).1 (dueOk_page h1).2)
  have HR := Lib.hid (show takesRes i e = (takesOk i e && takesE i e) from rfl)
  have HK := Lib.hid (show takesOk i e = (dueOk i && entOk e) from rfl)
  generalize takesRes i e = r0 at *
  generalize takesOk i e = o0 at *
  generalize takesE i e = tk at *
  obtain ⟨g1, hg1⟩ : ∃ g1, dueOk i = g1 := ⟨_, rfl⟩
  obtain ⟨g2, hg2⟩ : ∃ g2, entOk e = g2 := ⟨_, rfl⟩
  rw [hg1] at HM HK HT
  rw [hg2] at HC HK HT
  clear hg1 hg2
  have E0 : okErr false = 1 := rfl
  have E1 : okErr true = 0 := rfl
  obtain ⟨ki, vmi, asi, pgi⟩ := i
  obtain ⟨ke, vme, ase, al, pe, level, frame, mid, rr, dw, x, af, ng, soft⟩ := e
  dsimp only [Inv.cells, Ent.cells, Tl.cells, List.length_nil, List.length_cons, Nat.zero_add] at *
  cases g1
  · go_enter Try.func20, Try.ntmps20
    go_wp2_with fail
    refine Calls.mono (HM.out _ _ (by simp)) ?_
    rintro e w1 ⟨rfl, hb1⟩
    have hs1 := hb1.size
    try simp at hs1
    have hc1_0 := fun o => (bcell hb1).1 (w.heap.size) o (by first | omega | (simp; done) | (simp; omega))
    have hf1_0 := fun o => (bcell hb1).2.1 (w.heap.size) o (by first | omega | (simp; done) | (simp; omega))
    have hz1_0 := (bcell hb1).2.2 (w.heap.size) (by first | omega | (simp; done) | (simp; omega))
    have hc1_1 := fun o => (bcell hb1).1 (w.heap.size + 1) o (by first | omega | (simp; done) | (simp; omega))
    have hf1_1 := fun o => (bcell hb1).2.1 (w.heap.size + 1) o (by first | omega | (simp; done) | (simp; omega))
    have hz1_1 := (bcell hb1).2.2 (w.heap.size + 1) (by first | omega | (simp; done) | (simp; omega))
    have HB1 := Lib.hid hb1
    clear hb1
    go_wp2
    go_ret2
    exact ⟨by rw [HR.out, HK.out] <;> rfl, (by repeat' (first | (with_reducible exact Below.refl _ _) | (with_reducible (refine Below.setCell ?_ ?_ _)) | (with_reducible (refine Below.alloc ?_ ?_ _)) | (with_reducible (refine Below.drew ?_)) | (with_reducible (refine below_via ?_ HB1.out ?_)) | omega | (simp; done) | (simp; omega)))⟩
  cases g2
  · go_enter Try.func20, Try.ntmps20
    go_wp2_with fail
    refine Calls.mono (HM.out _ _ (by simp)) ?_
    rintro e w1 ⟨rfl, hb1⟩
    have hs1 := hb1.size
    try simp at hs1
    have hc1_0 := fun o => (bcell hb1).1 (w.heap.size) o (by first | omega | (simp; done) | (simp; omega))
    have hf1_0 := fun o => (bcell hb1).2.1 (w.heap.size) o (by first | omega | (simp; done) | (simp; omega))
    have hz1_0 := (bcell hb1).2.2 (w.heap.size) (by first | omega | (simp; done) | (simp; omega))
    have hc1_1 := fun o => (bcell hb1).1 (w.heap.size + 1) o (by first | omega | (simp; done) | (simp; omega))
    have hf1_1 := fun o => (bcell hb1).2.1 (w.heap.size + 1) o (by first | omega | (simp; done) | (simp; omega))
    have hz1_1 := (bcell hb1).2.2 (w.heap.size + 1) (by first | omega | (simp; done) | (simp; omega))
    have HB1 := Lib.hid hb1
    clear hb1
    go_wp2_with fail
    refine Calls.mono (HC.out _ _ (by simp)) ?_
    rintro e w2 ⟨rfl, hb2⟩
    have hs2 := hb2.size
    try simp at hs2
    have hc2_0 := fun o => (bcell hb2).1 (w.heap.size) o (by first | omega | (simp; done) | (simp; omega))
    have hf2_0 := fun o => (bcell hb2).2.1 (w.heap.size) o (by first | omega | (simp; done) | (simp; omega))
    have hz2_0 := (bcell hb2).2.2 (w.heap.size) (by first | omega | (simp; done) | (simp; omega))
    have hc2_1 := fun o => (bcell hb2).1 (w.heap.size + 1) o (by first | omega | (simp; done) | (simp; omega))
    have hf2_1 := fun o => (bcell hb2).2.1 (w.heap.size + 1) o (by first | omega | (simp; done) | (simp; omega))
    have hz2_1 := (bcell hb2).2.2 (w.heap.size + 1) (by first | omega | (simp; done) | (simp; omega))
    have HB2 := Lib.hid hb2
    clear hb2
    go_wp2
    go_ret2
    exact ⟨by rw [HR.out, HK.out] <;> rfl, (by repeat' (first | (with_reducible exact Below.refl _ _) | (with_reducible (refine Below.setCell ?_ ?_ _)) | (with_reducible (refine Below.alloc ?_ ?_ _)) | (with_reducible (refine Below.drew ?_)) | (with_reducible (refine below_via ?_ HB2.out ?_)) | (with_reducible (refine below_via ?_ HB1.out ?_)) | omega | (simp; done) | (simp; omega)))⟩
  go_enter Try.func20, Try.ntmps20
  go_wp2_with fail
  refine Calls.mono (HM.out _ _ (by simp)) ?_
  rintro e w1 ⟨rfl, hb1⟩
  have hs1 := hb1.size
  try simp at hs1
  have hc1_0 := fun o => (bcell hb1).1 (w.heap.size) o (by first | omega | (simp; done) | (simp; omega))
  have hf1_0 := fun o => (bcell hb1).2.1 (w.heap.size) o (by first | omega | (simp; done) | (simp; omega))
  have hz1_0 := (bcell hb1).2.2 (w.heap.size) (by first | omega | (simp; done) | (simp; omega))
  have hc1_1 := fun o => (bcell hb1).1 (w.heap.size + 1) o (by first | omega | (simp; done) | (simp; omega))
  have hf1_1 := fun o => (bcell hb1).2.1 (w.heap.size + 1) o (by first | omega | (simp; done) | (simp; omega))
  have hz1_1 := (bcell hb1).2.2 (w.heap.size + 1) (by first | omega | (simp; done) | (simp; omega))
  have HB1 := Lib.hid hb1
  clear hb1
  go_wp2_with fail
  refine Calls.mono (HC.out _ _ (by simp)) ?_
  rintro e w2 ⟨rfl, hb2⟩
  have hs2 := hb2.size
  try simp at hs2
  have hc2_0 := fun o => (bcell hb2).1 (w.heap.size) o (by first | omega | (simp; done) | (simp; omega))
  have hf2_0 := fun o => (bcell hb2).2.1 (w.heap.size) o (by first | omega | (simp; done) | (simp; omega))
  have hz2_0 := (bcell hb2).2.2 (w.heap.size) (by first | omega | (simp; done) | (simp; omega))
  have hc2_1 := fun o => (bcell hb2).1 (w.heap.size + 1) o (by first | omega | (simp; done) | (simp; omega))
  have hf2_1 := fun o => (bcell hb2).2.1 (w.heap.size + 1) o (by first | omega | (simp; done) | (simp; omega))
  have hz2_1 := (bcell hb2).2.2 (w.heap.size + 1) (by first | omega | (simp; done) | (simp; omega))
  have HB2 := Lib.hid hb2
  clear hb2
  go_wp2_with fail
  refine Calls.mono (HT.out _ (by trivial) (by trivial)) ?_
  rintro e w3 ⟨rfl, hb3⟩
  have hs3 := hb3.size
  try simp at hs3
  have hc3_0 := fun o => (bcell hb3).1 (w.heap.size) o (by first | omega | (simp; done) | (simp; omega))
  have hf3_0 := fun o => (bcell hb3).2.1 (w.heap.size) o (by first | omega | (simp; done) | (simp; omega))
  have hz3_0 := (bcell hb3).2.2 (w.heap.size) (by first | omega | (simp; done) | (simp; omega))
  have hc3_1 := fun o => (bcell hb3).1 (w.heap.size + 1) o (by first | omega | (simp; done) | (simp; omega))
  have hf3_1 := fun o => (bcell hb3).2.1 (w.heap.size + 1) o (by first | omega | (simp; done) | (simp; omega))
  have hz3_1 := (bcell hb3).2.2 (w.heap.size + 1) (by first | omega | (simp; done) | (simp; omega))
  have HB3 := Lib.hid hb3
  clear hb3
  go_wp2
  go_ret2
  exact ⟨by rw [HR.out, HK.out] <;> rfl, (by repeat' (first | (with_reducible exact Below.refl _ _) | (with_reducible (refine Below.setCell ?_ ?_ _)) | (with_reducible (refine Below.alloc ?_ ?_ _)) | (with_reducible (refine Below.drew ?_)) | (with_reducible (refine below_via ?_ HB3.out ?_)) | (with_reducible (refine below_via ?_ HB2.out ?_)) | (with_reducible (refine below_via ?_ HB1.out ?_)) | omega | (simp; done) | (simp; omega)))⟩

theorem dnum_any (n : Int) (w : World) : Calls Try.prog 24 #[.int .i64 n] w fun e w' => e = .returned (.int .i64 n) ∧ w = w' := by
  go_enter Try.func24, Try.ntmps24
  go_wp2
  go_ret
  exact ⟨rfl, rfl⟩

theorem wk_a : takesRes ⟨6, 0, 0, 3⟩ ⟨1, 0, 0, false, 3, 0, 0, 3, true, false, false, false, false, 0⟩ = false ∧ takesOk ⟨6, 0, 0, 3⟩ ⟨1, 0, 0, false, 3, 0, 0, 3, true, false, false, false, false, 0⟩ = true := by decide +kernel
theorem wk_b : takesRes ⟨3, 0, 0, 0⟩ ⟨1, 0, 0, false, 3, 0, 0, 3, true, false, false, false, false, 0⟩ = true ∧ takesOk ⟨3, 0, 0, 0⟩ ⟨1, 0, 0, false, 3, 0, 0, 3, true, false, false, false, false, 0⟩ = true := by decide +kernel

set_option maxRecDepth 100000 in
set_option maxHeartbeats 4000000 in
theorem wakes10_any (w : World) : Calls Try.prog 25 #[] w fun e w' => e = .returned (.bool true) ∧ Below w.heap.size w w' := by
  have HA := Lib.hid (fun W => Takes_any ⟨6, 0, 0, 3⟩ ⟨1, 0, 0, false, 3, 0, 0, 3, true, false, false, false, false, 0⟩ W)
  have HB := Lib.hid (fun W => Takes_any ⟨3, 0, 0, 0⟩ ⟨1, 0, 0, false, 3, 0, 0, 3, true, false, false, false, false, 0⟩ W)
  rw [wk_a.1, wk_a.2] at HA
  rw [wk_b.1, wk_b.2] at HB
  have E1 : okErr true = 0 := rfl
  rw [E1] at HA HB
  have HNU := Lib.hid (fun (n : Int) W => dnum_any n W)
  dsimp only [Inv.cells, Ent.cells] at HA HB
  go_enter Try.func25, Try.ntmps25
  go_wp2_with fail
  refine Calls.mono (HA.out _) ?_
  rintro e w1 ⟨rfl, hb1⟩
  have hs1 := hb1.size
  try simp at hs1
  have hc1_0 := fun o => (bcell hb1).1 (w.heap.size) o (by first | omega | (simp; done) | (simp; omega))
  have hf1_0 := fun o => (bcell hb1).2.1 (w.heap.size) o (by first | omega | (simp; done) | (simp; omega))
  have hz1_0 := (bcell hb1).2.2 (w.heap.size) (by first | omega | (simp; done) | (simp; omega))
  have HB1 := Lib.hid hb1
  clear hb1
  go_wp2_with fail
  refine Calls.mono (HB.out _) ?_
  rintro e w2 ⟨rfl, hb2⟩
  have hs2 := hb2.size
  try simp at hs2
  have hc2_0 := fun o => (bcell hb2).1 (w.heap.size) o (by first | omega | (simp; done) | (simp; omega))
  have hf2_0 := fun o => (bcell hb2).2.1 (w.heap.size) o (by first | omega | (simp; done) | (simp; omega))
  have hz2_0 := (bcell hb2).2.2 (w.heap.size) (by first | omega | (simp; done) | (simp; omega))
  have HB2 := Lib.hid hb2
  clear hb2
  go_wp2_with (go_at_call 24; refine (HNU.out _ _).mono ?_; rintro e w' ⟨rfl, rfl⟩)
  go_ret
  exact ⟨rfl, (by repeat' (first | (with_reducible exact Below.refl _ _) | (with_reducible (refine Below.setCell ?_ ?_ _)) | (with_reducible (refine Below.alloc ?_ ?_ _)) | (with_reducible (refine Below.drew ?_)) | (with_reducible (refine below_via ?_ HB2.out ?_)) | (with_reducible (refine below_via ?_ HB1.out ?_)) | omega | (simp; done) | (simp; omega)))⟩

end Go.Proofs.Ytbaninglcafhhaa
