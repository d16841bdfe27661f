/-
  An entry that is asked for: the program's search. Conditions: it reads.
-/
import Derived.Test.YtbaninglcafhhaaChkA
import Derived.Test.YtbaninglcafhhaaEntE
import Derived.Test.YtbaninglcafhhaaPut
namespace Go.Proofs.Ytbaninglcafhhaa
open Go.RowKit

def foundR (es : List Ent) (p : Ent → Bool) : Ent := (es.find? p).getD noEnt
def foundX (es : List Ent) (p : Ent → Bool) : Int := if es.any p then 0 else 3
theorem found_hit {es : List Ent} {p : Ent → Bool} {k : Nat} (h : (es.take k).any p = false) (hk : k < es.length) {e : Ent} (he : es[k] = e) (hp : p e = true) : foundR es p = e ∧ foundX es p = 0 := by
  have h1 : es.find? p = some e := by
    rw [List.find?_eq_some_iff_getElem]
    refine ⟨hp, k, hk, he, fun j hj => ?_⟩
    rw [List.any_eq_false] at h
    have := h es[j] (by rw [List.mem_take_iff_getElem]; exact ⟨j, by omega, rfl⟩)
    simpa using this
  refine ⟨by unfold foundR; rw [h1]; rfl, ?_⟩
  unfold foundX
  rw [if_pos]
  rw [List.any_eq_true]
  exact ⟨e, by rw [← he]; exact List.getElem_mem hk, hp⟩
theorem found_none {es : List Ent} {p : Ent → Bool} {k : Nat} (h : (es.take k).any p = false) (hk : es.length ≤ k) : foundR es p = noEnt ∧ foundX es p = 3 := by
  rw [List.take_of_length_le hk] at h
  have h1 : es.find? p = none := by
    rw [List.find?_eq_none]
    rw [List.any_eq_false] at h
    exact h
  exact ⟨by unfold foundR; rw [h1]; rfl, by unfold foundX; rw [h]; rfl⟩
def lookOk (t : Tl) (vmid asid page acc : Int) : Bool := tlbOk t.es t.ds && (accOk acc && ((numOk vmid 15 && numOk asid 15) && numOk page 4095))

set_option maxRecDepth 100000 in
set_option maxHeartbeats 4000000 in
theorem found_no (t : Tl) (kind vmid asid page acc : Int) (w : World) (h : TlAt w t) (hno : lookOk t vmid asid page acc = false) :
    Calls Try.prog 71 #[.agg t.cells.toArray, .int .i64 kind, .int .i64 vmid, .int .i64 asid, .int .i64 page, .int .i64 acc] w fun y w' => y = .returned (.tuple #[.agg #[.int .i64 0, .int .i64 0, .int .i64 0, .bool false, .int .i64 0, .int .i64 0, .int .i64 0, .int .i64 0, .bool false, .bool false, .bool false, .bool false, .bool false, .int .i64 0], .int .i64 1]) ∧ Below w.heap.size w w' := by
  have HC := Lib.hid (fun W (hb : Below w.heap.size w W) => Check_any t W (h.below hb))
  have HM := Lib.hid (fun W => may_any false false false false false 0 acc W)
  have HW2 := Lib.hid (fun W b (hb : b = W.heap.size) => win2 15 vmid asid W b 3 hb)
  have HW1 := Lib.hid (fun W b (hb : b = W.heap.size) => win1 4095 page W b 3 hb)
  unfold lookOk at hno
  obtain ⟨ea, ec, es, da, dc, ds⟩ := t
  dsimp only [Tl.cells] at *
  generalize mayOf false false false acc = mm at *
  generalize tlbOk es ds = g1 at *
  generalize accOk acc = g2 at *
  generalize (numOk vmid 15 && numOk asid 15) = g3 at *
  generalize numOk page 4095 = g4 at *
  have E0 : okErr false = 1 := rfl
  have E1 : okErr true = 0 := rfl
  have F0 : formIf false = 1 := rfl
  have F1 : formIf true = 0 := rfl
  clear h
  cases g1
  · clear hno
    go_enter Try.func71, Try.ntmps71
    go_wp2_with fail
    refine Calls.mono (HM.out _) ?_
    rintro e w1 ⟨rfl, hb1⟩
    have hs1 := hb1.size
    try simp at hs1
    have hc1_0 := fun o => (bcell hb1).1 (w.heap.size) o (by first | omega | (simp; done) | (simp; omega))
    have hf1_0 := fun o => (bcell hb1).2.1 (w.heap.size) o (by first | omega | (simp; done) | (simp; omega))
    have hz1_0 := (bcell hb1).2.2 (w.heap.size) (by first | omega | (simp; done) | (simp; omega))
    have hc1_1 := fun o => (bcell hb1).1 (w.heap.size + 1) o (by first | omega | (simp; done) | (simp; omega))
    have hf1_1 := fun o => (bcell hb1).2.1 (w.heap.size + 1) o (by first | omega | (simp; done) | (simp; omega))
    have hz1_1 := (bcell hb1).2.2 (w.heap.size + 1) (by first | omega | (simp; done) | (simp; omega))
    have HB1 := Lib.hid hb1
    clear hb1
    go_wp2_with fail
    refine Calls.mono (HC.out _ (by repeat' (first | (with_reducible exact Below.refl _ _) | (with_reducible (refine Below.setCell ?_ ?_ _)) | (with_reducible (refine Below.alloc ?_ ?_ _)) | (with_reducible (refine Below.drew ?_)) | (with_reducible (refine below_via ?_ HB1.out ?_)) | omega | (simp; done) | (simp; omega)))) ?_
    rintro e w2 ⟨rfl, hb2⟩
    have hs2 := hb2.size
    try simp at hs2
    have hc2_0 := fun o => (bcell hb2).1 (w.heap.size) o (by first | omega | (simp; done) | (simp; omega))
    have hf2_0 := fun o => (bcell hb2).2.1 (w.heap.size) o (by first | omega | (simp; done) | (simp; omega))
    have hz2_0 := (bcell hb2).2.2 (w.heap.size) (by first | omega | (simp; done) | (simp; omega))
    have hc2_1 := fun o => (bcell hb2).1 (w.heap.size + 1) o (by first | omega | (simp; done) | (simp; omega))
    have hf2_1 := fun o => (bcell hb2).2.1 (w.heap.size + 1) o (by first | omega | (simp; done) | (simp; omega))
    have hz2_1 := (bcell hb2).2.2 (w.heap.size + 1) (by first | omega | (simp; done) | (simp; omega))
    have HB2 := Lib.hid hb2
    clear hb2
    go_wp2
    refine bodyPost_ret (v := .tuple #[.agg #[.int .i64 0, .int .i64 0, .int .i64 0, .bool false, .int .i64 0, .int .i64 0, .int .i64 0, .int .i64 0, .bool false, .bool false, .bool false, .bool false, .bool false, .int .i64 0], .int .i64 1]) (by simp [results, Try.results71, go_sem, *]) rfl ⟨rfl, ?_⟩
    repeat' (first | (with_reducible exact Below.refl _ _) | (with_reducible (refine Below.setCell ?_ ?_ _)) | (with_reducible (refine Below.alloc ?_ ?_ _)) | (with_reducible (refine Below.drew ?_)) | (with_reducible (refine below_via ?_ HB2.out ?_)) | (with_reducible (refine below_via ?_ HB1.out ?_)) | omega | (simp; done) | (simp; omega))
  · cases g2
    · clear hno
      go_enter Try.func71, Try.ntmps71
      go_wp2_with fail
      refine Calls.mono (HM.out _) ?_
      rintro e w1 ⟨rfl, hb1⟩
      have hs1 := hb1.size
      try simp at hs1
      have hc1_0 := fun o => (bcell hb1).1 (w.heap.size) o (by first | omega | (simp; done) | (simp; omega))
      have hf1_0 := fun o => (bcell hb1).2.1 (w.heap.size) o (by first | omega | (simp; done) | (simp; omega))
      have hz1_0 := (bcell hb1).2.2 (w.heap.size) (by first | omega | (simp; done) | (simp; omega))
      have hc1_1 := fun o => (bcell hb1).1 (w.heap.size + 1) o (by first | omega | (simp; done) | (simp; omega))
      have hf1_1 := fun o => (bcell hb1).2.1 (w.heap.size + 1) o (by first | omega | (simp; done) | (simp; omega))
      have hz1_1 := (bcell hb1).2.2 (w.heap.size + 1) (by first | omega | (simp; done) | (simp; omega))
      have HB1 := Lib.hid hb1
      clear hb1
      go_wp2_with fail
      refine Calls.mono (HC.out _ (by repeat' (first | (with_reducible exact Below.refl _ _) | (with_reducible (refine Below.setCell ?_ ?_ _)) | (with_reducible (refine Below.alloc ?_ ?_ _)) | (with_reducible (refine Below.drew ?_)) | (with_reducible (refine below_via ?_ HB1.out ?_)) | omega | (simp; done) | (simp; omega)))) ?_
      rintro e w2 ⟨rfl, hb2⟩
      have hs2 := hb2.size
      try simp at hs2
      have hc2_0 := fun o => (bcell hb2).1 (w.heap.size) o (by first | omega | (simp; done) | (simp; omega))
      have hf2_0 := fun o => (bcell hb2).2.1 (w.heap.size) o (by first | omega | (simp; done) | (simp; omega))
      have hz2_0 := (bcell hb2).2.2 (w.heap.size) (by first | omega | (simp; done) | (simp; omega))
      have hc2_1 := fun o => (bcell hb2).1 (w.heap.size + 1) o (by first | omega | (simp; done) | (simp; omega))
      have hf2_1 := fun o => (bcell hb2).2.1 (w.heap.size + 1) o (by first | omega | (simp; done) | (simp; omega))
      have hz2_1 := (bcell hb2).2.2 (w.heap.size + 1) (by first | omega | (simp; done) | (simp; omega))
      have HB2 := Lib.hid hb2
      clear hb2
      go_wp2
      refine bodyPost_ret (v := .tuple #[.agg #[.int .i64 0, .int .i64 0, .int .i64 0, .bool false, .int .i64 0, .int .i64 0, .int .i64 0, .int .i64 0, .bool false, .bool false, .bool false, .bool false, .bool false, .int .i64 0], .int .i64 1]) (by simp [results, Try.results71, go_sem, *]) rfl ⟨rfl, ?_⟩
      repeat' (first | (with_reducible exact Below.refl _ _) | (with_reducible (refine Below.setCell ?_ ?_ _)) | (with_reducible (refine Below.alloc ?_ ?_ _)) | (with_reducible (refine Below.drew ?_)) | (with_reducible (refine below_via ?_ HB2.out ?_)) | (with_reducible (refine below_via ?_ HB1.out ?_)) | omega | (simp; done) | (simp; omega))
    · cases g3
      · clear hno
        go_enter Try.func71, Try.ntmps71
        go_wp2_with fail
        refine Calls.mono (HM.out _) ?_
        rintro e w1 ⟨rfl, hb1⟩
        have hs1 := hb1.size
        try simp at hs1
        have hc1_0 := fun o => (bcell hb1).1 (w.heap.size) o (by first | omega | (simp; done) | (simp; omega))
        have hf1_0 := fun o => (bcell hb1).2.1 (w.heap.size) o (by first | omega | (simp; done) | (simp; omega))
        have hz1_0 := (bcell hb1).2.2 (w.heap.size) (by first | omega | (simp; done) | (simp; omega))
        have hc1_1 := fun o => (bcell hb1).1 (w.heap.size + 1) o (by first | omega | (simp; done) | (simp; omega))
        have hf1_1 := fun o => (bcell hb1).2.1 (w.heap.size + 1) o (by first | omega | (simp; done) | (simp; omega))
        have hz1_1 := (bcell hb1).2.2 (w.heap.size + 1) (by first | omega | (simp; done) | (simp; omega))
        have HB1 := Lib.hid hb1
        clear hb1
        go_wp2_with fail
        refine Calls.mono (HC.out _ (by repeat' (first | (with_reducible exact Below.refl _ _) | (with_reducible (refine Below.setCell ?_ ?_ _)) | (with_reducible (refine Below.alloc ?_ ?_ _)) | (with_reducible (refine Below.drew ?_)) | (with_reducible (refine below_via ?_ HB1.out ?_)) | omega | (simp; done) | (simp; omega)))) ?_
        rintro e w2 ⟨rfl, hb2⟩
        have hs2 := hb2.size
        try simp at hs2
        have hc2_0 := fun o => (bcell hb2).1 (w.heap.size) o (by first | omega | (simp; done) | (simp; omega))
        have hf2_0 := fun o => (bcell hb2).2.1 (w.heap.size) o (by first | omega | (simp; done) | (simp; omega))
        have hz2_0 := (bcell hb2).2.2 (w.heap.size) (by first | omega | (simp; done) | (simp; omega))
        have hc2_1 := fun o => (bcell hb2).1 (w.heap.size + 1) o (by first | omega | (simp; done) | (simp; omega))
        have hf2_1 := fun o => (bcell hb2).2.1 (w.heap.size + 1) o (by first | omega | (simp; done) | (simp; omega))
        have hz2_1 := (bcell hb2).2.2 (w.heap.size + 1) (by first | omega | (simp; done) | (simp; omega))
        have HB2 := Lib.hid hb2
        clear hb2
        go_wp2_with fail
        refine Calls.mono (HW2.out _ _ rfl) ?_
        rintro e w3 ⟨rfl, hb3⟩
        have hs3 := hb3.size
        try simp at hs3
        have hc3_0 := fun o => (bcell hb3).1 (w.heap.size) o (by first | omega | (simp; done) | (simp; omega))
        have hf3_0 := fun o => (bcell hb3).2.1 (w.heap.size) o (by first | omega | (simp; done) | (simp; omega))
        have hz3_0 := (bcell hb3).2.2 (w.heap.size) (by first | omega | (simp; done) | (simp; omega))
        have hc3_1 := fun o => (bcell hb3).1 (w.heap.size + 1) o (by first | omega | (simp; done) | (simp; omega))
        have hf3_1 := fun o => (bcell hb3).2.1 (w.heap.size + 1) o (by first | omega | (simp; done) | (simp; omega))
        have hz3_1 := (bcell hb3).2.2 (w.heap.size + 1) (by first | omega | (simp; done) | (simp; omega))
        have HB3 := Lib.hid hb3
        clear hb3
        go_wp2
        refine bodyPost_ret (v := .tuple #[.agg #[.int .i64 0, .int .i64 0, .int .i64 0, .bool false, .int .i64 0, .int .i64 0, .int .i64 0, .int .i64 0, .bool false, .bool false, .bool false, .bool false, .bool false, .int .i64 0], .int .i64 1]) (by simp [results, Try.results71, go_sem, *]) rfl ⟨rfl, ?_⟩
        repeat' (first | (with_reducible exact Below.refl _ _) | (with_reducible (refine Below.setCell ?_ ?_ _)) | (with_reducible (refine Below.alloc ?_ ?_ _)) | (with_reducible (refine Below.drew ?_)) | (with_reducible (refine below_via ?_ HB3.out ?_)) | (with_reducible (refine below_via ?_ HB2.out ?_)) | (with_reducible (refine below_via ?_ HB1.out ?_)) | omega | (simp; done) | (simp; omega))
      · obtain rfl : g4 = false := by simpa using hno
        clear hno
        go_enter Try.func71, Try.ntmps71
        go_wp2_with fail
        refine Calls.mono (HM.out _) ?_
        rintro e w1 ⟨rfl, hb1⟩
        have hs1 := hb1.size
        try simp at hs1
        have hc1_0 := fun o => (bcell hb1).1 (w.heap.size) o (by first | omega | (simp; done) | (simp; omega))
        have hf1_0 := fun o => (bcell hb1).2.1 (w.heap.size) o (by first | omega | (simp; done) | (simp; omega))
        have hz1_0 := (bcell hb1).2.2 (w.heap.size) (by first | omega | (simp; done) | (simp; omega))
        have hc1_1 := fun o => (bcell hb1).1 (w.heap.size + 1) o (by first | omega | (simp; done) | (simp; omega))
        have hf1_1 := fun o => (bcell hb1).2.1 (w.heap.size + 1) o (by first | omega | (simp; done) | (simp; omega))
        have hz1_1 := (bcell hb1).2.2 (w.heap.size + 1) (by first | omega | (simp; done) | (simp; omega))
        have HB1 := Lib.hid hb1
        clear hb1
        go_wp2_with fail
        refine Calls.mono (HC.out _ (by repeat' (first | (with_reducible exact Below.refl _ _) | (with_reducible (refine Below.setCell ?_ ?_ _)) | (with_reducible (refine Below.alloc ?_ ?_ _)) | (with_reducible (refine Below.drew ?_)) | (with_reducible (refine below_via ?_ HB1.out ?_)) | omega | (simp; done) | (simp; omega)))) ?_
        rintro e w2 ⟨rfl, hb2⟩
        have hs2 := hb2.size
        try simp at hs2
        have hc2_0 := fun o => (bcell hb2).1 (w.heap.size) o (by first | omega | (simp; done) | (simp; omega))
        have hf2_0 := fun o => (bcell hb2).2.1 (w.heap.size) o (by first | omega | (simp; done) | (simp; omega))
        have hz2_0 := (bcell hb2).2.2 (w.heap.size) (by first | omega | (simp; done) | (simp; omega))
        have hc2_1 := fun o => (bcell hb2).1 (w.heap.size + 1) o (by first | omega | (simp; done) | (simp; omega))
        have hf2_1 := fun o => (bcell hb2).2.1 (w.heap.size + 1) o (by first | omega | (simp; done) | (simp; omega))
        have hz2_1 := (bcell hb2).2.2 (w.heap.size + 1) (by first | omega | (simp; done) | (simp; omega))
        have HB2 := Lib.hid hb2
        clear hb2
        go_wp2_with fail
        refine Calls.mono (HW2.out _ _ rfl) ?_
        rintro e w3 ⟨rfl, hb3⟩
        have hs3 := hb3.size
        try simp at hs3
        have hc3_0 := fun o => (bcell hb3).1 (w.heap.size) o (by first | omega | (simp; done) | (simp; omega))
        have hf3_0 := fun o => (bcell hb3).2.1 (w.heap.size) o (by first | omega | (simp; done) | (simp; omega))
        have hz3_0 := (bcell hb3).2.2 (w.heap.size) (by first | omega | (simp; done) | (simp; omega))
        have hc3_1 := fun o => (bcell hb3).1 (w.heap.size + 1) o (by first | omega | (simp; done) | (simp; omega))
        have hf3_1 := fun o => (bcell hb3).2.1 (w.heap.size + 1) o (by first | omega | (simp; done) | (simp; omega))
        have hz3_1 := (bcell hb3).2.2 (w.heap.size + 1) (by first | omega | (simp; done) | (simp; omega))
        have HB3 := Lib.hid hb3
        clear hb3
        go_wp2_with fail
        refine Calls.mono (HW1.out _ _ rfl) ?_
        rintro e w4 ⟨rfl, hb4⟩
        have hs4 := hb4.size
        try simp at hs4
        have hc4_0 := fun o => (bcell hb4).1 (w.heap.size) o (by first | omega | (simp; done) | (simp; omega))
        have hf4_0 := fun o => (bcell hb4).2.1 (w.heap.size) o (by first | omega | (simp; done) | (simp; omega))
        have hz4_0 := (bcell hb4).2.2 (w.heap.size) (by first | omega | (simp; done) | (simp; omega))
        have hc4_1 := fun o => (bcell hb4).1 (w.heap.size + 1) o (by first | omega | (simp; done) | (simp; omega))
        have hf4_1 := fun o => (bcell hb4).2.1 (w.heap.size + 1) o (by first | omega | (simp; done) | (simp; omega))
        have hz4_1 := (bcell hb4).2.2 (w.heap.size + 1) (by first | omega | (simp; done) | (simp; omega))
        have HB4 := Lib.hid hb4
        clear hb4
        go_wp2
        refine bodyPost_ret (v := .tuple #[.agg #[.int .i64 0, .int .i64 0, .int .i64 0, .bool false, .int .i64 0, .int .i64 0, .int .i64 0, .int .i64 0, .bool false, .bool false, .bool false, .bool false, .bool false, .int .i64 0], .int .i64 1]) (by simp [results, Try.results71, go_sem, *]) rfl ⟨rfl, ?_⟩
        repeat' (first | (with_reducible exact Below.refl _ _) | (with_reducible (refine Below.setCell ?_ ?_ _)) | (with_reducible (refine Below.alloc ?_ ?_ _)) | (with_reducible (refine Below.drew ?_)) | (with_reducible (refine below_via ?_ HB4.out ?_)) | (with_reducible (refine below_via ?_ HB3.out ?_)) | (with_reducible (refine below_via ?_ HB2.out ?_)) | (with_reducible (refine below_via ?_ HB1.out ?_)) | omega | (simp; done) | (simp; omega))

set_option maxRecDepth 100000 in
set_option maxHeartbeats 4000000 in
theorem found_yes (t : Tl) (kind vmid asid page acc : Int) (w : World) (h : TlAt w t) (hok : lookOk t vmid asid page acc = true) :
    Calls Try.prog 71 #[.agg t.cells.toArray, .int .i64 kind, .int .i64 vmid, .int .i64 asid, .int .i64 page, .int .i64 acc] w fun y w' => y = .returned (.tuple #[.agg (foundR t.es (fun e => ofE e kind vmid asid page && letsE e acc)).cells.toArray, .int .i64 (foundX t.es (fun e => ofE e kind vmid asid page && letsE e acc))]) ∧ Below w.heap.size w w' := by
  have HC := Lib.hid (fun W (hb : Below w.heap.size w W) => Check_any t W (h.below hb))
  have HM := Lib.hid (fun W => may_any false false false false false 0 acc W)
  have HW2 := Lib.hid (fun W b (hb : b = W.heap.size) => win2 15 vmid asid W b 3 hb)
  have HW1 := Lib.hid (fun W b (hb : b = W.heap.size) => win1 4095 page W b 3 hb)
  unfold lookOk at hok
  simp only [Bool.and_eq_true] at hok
  obtain ⟨k1, k2, ⟨k3, k4⟩, k5⟩ := hok
  obtain ⟨j1, j2, j3, j4⟩ := tlbOk_ents k1
  have hpg := k5
  unfold numOk at hpg
  simp only [Bool.and_eq_true, decide_eq_true_eq] at hpg
  have HOF := Lib.hid (fun e W (he : e ∈ t.es) => of_any e kind vmid asid page W (j3 e he) hpg.1 hpg.2)
  have HLE := Lib.hid (fun e W => lets_any e acc W)
  have HE := Lib.hid h.eat
  obtain ⟨p, hp⟩ : ∃ p : Ent → Bool, p = fun e => ofE e kind vmid asid page && letsE e acc := ⟨_, rfl⟩
  rw [← hp]
  have HP := Lib.hid (fun e => congrFun hp e)
  obtain ⟨ea, ec, es, da, dc, ds⟩ := t
  dsimp only [Tl.cells] at *
  rw [k1] at HC
  rw [k2] at HM
  rw [k3, k4] at HW2
  rw [k5] at HW1
  rw [show okErr true = 0 from rfl] at HC
  rw [show formIf true = 0 from rfl] at HM
  rw [show (true && true) = true from rfl] at HW2
  generalize mayOf false false false acc = mm at *
  clear h k1 k2 k3 k4 k5 hpg hp j3 j4
  go_enter Try.func71, Try.ntmps71
  go_wp2_with fail
  refine Calls.mono (HM.out _) ?_
  rintro e w1 ⟨rfl, hb1⟩
  have hs1 := hb1.size
  try simp at hs1
  have hc1_0 := fun o => (bcell hb1).1 (w.heap.size) o (by first | omega | (simp; done) | (simp; omega))
  have hf1_0 := fun o => (bcell hb1).2.1 (w.heap.size) o (by first | omega | (simp; done) | (simp; omega))
  have hz1_0 := (bcell hb1).2.2 (w.heap.size) (by first | omega | (simp; done) | (simp; omega))
  have hc1_1 := fun o => (bcell hb1).1 (w.heap.size + 1) o (by first | omega | (simp; done) | (simp; omega))
  have hf1_1 := fun o => (bcell hb1).2.1 (w.heap.size + 1) o (by first | omega | (simp; done) | (simp; omega))
  have hz1_1 := (bcell hb1).2.2 (w.heap.size + 1) (by first | omega | (simp; done) | (simp; omega))
  have HB1 := Lib.hid hb1
  clear hb1
  go_wp2_with fail
  refine Calls.mono (HC.out _ (by repeat' (first | (with_reducible exact Below.refl _ _) | (with_reducible (refine Below.setCell ?_ ?_ _)) | (with_reducible (refine Below.alloc ?_ ?_ _)) | (with_reducible (refine Below.drew ?_)) | (with_reducible (refine below_via ?_ HB1.out ?_)) | omega | (simp; done) | (simp; omega)))) ?_
  rintro e w2 ⟨rfl, hb2⟩
  have hs2 := hb2.size
  try simp at hs2
  have hc2_0 := fun o => (bcell hb2).1 (w.heap.size) o (by first | omega | (simp; done) | (simp; omega))
  have hf2_0 := fun o => (bcell hb2).2.1 (w.heap.size) o (by first | omega | (simp; done) | (simp; omega))
  have hz2_0 := (bcell hb2).2.2 (w.heap.size) (by first | omega | (simp; done) | (simp; omega))
  have hc2_1 := fun o => (bcell hb2).1 (w.heap.size + 1) o (by first | omega | (simp; done) | (simp; omega))
  have hf2_1 := fun o => (bcell hb2).2.1 (w.heap.size + 1) o (by first | omega | (simp; done) | (simp; omega))
  have hz2_1 := (bcell hb2).2.2 (w.heap.size + 1) (by first | omega | (simp; done) | (simp; omega))
  have HB2 := Lib.hid hb2
  clear hb2
  go_wp2_with fail
  refine Calls.mono (HW2.out _ _ rfl) ?_
  rintro e w3 ⟨rfl, hb3⟩
  have hs3 := hb3.size
  try simp at hs3
  have hc3_0 := fun o => (bcell hb3).1 (w.heap.size) o (by first | omega | (simp; done) | (simp; omega))
  have hf3_0 := fun o => (bcell hb3).2.1 (w.heap.size) o (by first | omega | (simp; done) | (simp; omega))
  have hz3_0 := (bcell hb3).2.2 (w.heap.size) (by first | omega | (simp; done) | (simp; omega))
  have hc3_1 := fun o => (bcell hb3).1 (w.heap.size + 1) o (by first | omega | (simp; done) | (simp; omega))
  have hf3_1 := fun o => (bcell hb3).2.1 (w.heap.size + 1) o (by first | omega | (simp; done) | (simp; omega))
  have hz3_1 := (bcell hb3).2.2 (w.heap.size + 1) (by first | omega | (simp; done) | (simp; omega))
  have HB3 := Lib.hid hb3
  clear hb3
  go_wp2_with fail
  refine Calls.mono (HW1.out _ _ rfl) ?_
  rintro e w4 ⟨rfl, hb4⟩
  have hs4 := hb4.size
  try simp at hs4
  have hc4_0 := fun o => (bcell hb4).1 (w.heap.size) o (by first | omega | (simp; done) | (simp; omega))
  have hf4_0 := fun o => (bcell hb4).2.1 (w.heap.size) o (by first | omega | (simp; done) | (simp; omega))
  have hz4_0 := (bcell hb4).2.2 (w.heap.size) (by first | omega | (simp; done) | (simp; omega))
  have hc4_1 := fun o => (bcell hb4).1 (w.heap.size + 1) o (by first | omega | (simp; done) | (simp; omega))
  have hf4_1 := fun o => (bcell hb4).2.1 (w.heap.size + 1) o (by first | omega | (simp; done) | (simp; omega))
  have hz4_1 := (bcell hb4).2.2 (w.heap.size + 1) (by first | omega | (simp; done) | (simp; omega))
  have HB4 := Lib.hid hb4
  clear hb4
  go_wp2_with fail
  have HBX := Lib.hid (show Below w.heap.size w w4 from (by repeat' (first | (with_reducible exact Below.refl _ _) | (with_reducible (refine Below.setCell ?_ ?_ _)) | (with_reducible (refine Below.alloc ?_ ?_ _)) | (with_reducible (refine Below.drew ?_)) | (with_reducible (refine below_via ?_ HB4.out ?_)) | (with_reducible (refine below_via ?_ HB3.out ?_)) | (with_reducible (refine below_via ?_ HB2.out ?_)) | (with_reducible (refine below_via ?_ HB1.out ?_)) | omega | (simp; done) | (simp; omega))))
  have HX12 := Lib.hid (show w4.heap[w.heap.size + 1]? = some (.cells #[.int .i64 0, .int .i64 0, .int .i64 0, .bool false, .int .i64 0, .int .i64 0, .int .i64 0, .int .i64 0, .bool false, .bool false, .bool false, .bool false, .bool false, .int .i64 0] entT (0, 0)) from (by repeat (first | (with_reducible assumption) | (with_reducible refine heap_below_is HB4.out (by (first | omega | (simp; done) | (simp; omega))) ?_) | (with_reducible refine heap_below_is HB3.out (by (first | omega | (simp; done) | (simp; omega))) ?_) | (with_reducible refine heap_below_is HB2.out (by (first | omega | (simp; done) | (simp; omega))) ?_) | (with_reducible refine heap_below_is HB1.out (by (first | omega | (simp; done) | (simp; omega))) ?_) | (exact heap_at _ _ (by simp; done)) | (with_reducible refine heap_old_is _ _ (by (first | omega | (simp; done) | (simp; omega))) ?_) | (with_reducible refine heap_far_is (by (first | omega | (simp; done) | (simp; omega))) ?_))))
  have hx4 := heap_lt HX12.out
  clear hc1_0 hf1_0 hz1_0 hc1_1 hf1_1 hz1_1 hc2_0 hf2_0 hz2_0 hc2_1 hf2_1 hz2_1 hc3_0 hf3_0 hz3_0 hc3_1 hf3_1 hz3_1 hc4_0 hf4_0 hz4_0 hc4_1 hf4_1 hz4_1
  go_loopw [49] (fun i wr => ∃ k : Nat, k ≤ es.length ∧ i = .int .i64 k ∧ (es.take k).any p = false ∧ Below w4.heap.size w4 wr) (fun i _ => es.length - (intOf i).toNat)
  case atStart => exact ⟨0, Nat.zero_le _, rfl, by simp, Below.refl _ _⟩
  case round =>
    obtain ⟨k, hk, rfl, hany, hbw⟩ := hrel
    have HAN := Lib.hid hany
    have HBW := Lib.hid hbw
    have hsw := hbw.size
    have HXW := Lib.hid ((hbw.block _ hx4).trans HX12.out)
    clear hany hbw
    have x12 := fun j => cell_of_row _ _ j _ _ _ HXW.out
    have xf12 := fun j => frozen_of_row _ _ j _ _ HXW.out
    have hxw := heap_lt HXW.out
    by_cases hlt : k < es.length
    · have hki : (k : Int) < es.length := by omega
      have HBR := Lib.hid (below_via HBX.out HBW.out (by have := HBX.out.size; omega))
      obtain ⟨be, oe, rfl, hbe, hce⟩ := at_cells HE.out HBR.out hlt
      have HOK := Lib.hid (fun W => HOF.out es[k] W (List.getElem_mem hlt))
      obtain ⟨e, hek⟩ : ∃ e, es[k] = e := ⟨_, rfl⟩
      have HEK := Lib.hid hek
      rw [hek] at hce HOK
      clear hek
      have HLK := Lib.hid (fun W => HLE.out e W)
      have HPE := Lib.hid (HP.out e)
      have c0 := hce 0 _ rfl
      have c1 := hce 1 _ rfl
      have c2 := hce 2 _ rfl
      have c3 := hce 3 _ rfl
      have c4 := hce 4 _ rfl
      have c5 := hce 5 _ rfl
      have c6 := hce 6 _ rfl
      have c7 := hce 7 _ rfl
      have c8 := hce 8 _ rfl
      have c9 := hce 9 _ rfl
      have c10 := hce 10 _ rfl
      have c11 := hce 11 _ rfl
      have c12 := hce 12 _ rfl
      have c13 := hce 13 _ rfl
      simp only [Nat.add_zero] at c0
      clear hce
      obtain ⟨e', he'⟩ : ∃ x, x = e := ⟨_, rfl⟩
      have HE' := Lib.hid he'
      have hbe2 : be < wr.heap.size := by have := HBR.out.size; omega
      generalize ofE e kind vmid asid page = o1 at *
      generalize letsE e acc = o2 at *
      rw [← he'] at HPE HEK
      clear he'
      obtain ⟨a0, a1, a2, a3, a4, a5, a6, a7, a8, a9, a10, a11, a12, a13⟩ := e
      dsimp only [Ent.cells] at *
      cases o1
      · go_wp2_with fail
        refine Calls.mono (HOK.out _) ?_
        rintro e w5 ⟨rfl, hb5⟩
        have hs5 := hb5.size
        try simp at hs5
        have hc5_0 := fun o => (bcell hb5).1 (w.heap.size + 1) o (by first | omega | (simp; done) | (simp; omega))
        have hf5_0 := fun o => (bcell hb5).2.1 (w.heap.size + 1) o (by first | omega | (simp; done) | (simp; omega))
        have hz5_0 := (bcell hb5).2.2 (w.heap.size + 1) (by first | omega | (simp; done) | (simp; omega))
        have hc5_1 := fun o => (bcell hb5).1 (wr.heap.size) o (by first | omega | (simp; done) | (simp; omega))
        have hf5_1 := fun o => (bcell hb5).2.1 (wr.heap.size) o (by first | omega | (simp; done) | (simp; omega))
        have hz5_1 := (bcell hb5).2.2 (wr.heap.size) (by first | omega | (simp; done) | (simp; omega))
        have hc5_2 := fun o => (bcell hb5).1 (wr.heap.size + 1) o (by first | omega | (simp; done) | (simp; omega))
        have hf5_2 := fun o => (bcell hb5).2.1 (wr.heap.size + 1) o (by first | omega | (simp; done) | (simp; omega))
        have hz5_2 := (bcell hb5).2.2 (wr.heap.size + 1) (by first | omega | (simp; done) | (simp; omega))
        have HB5 := Lib.hid hb5
        clear hb5
        go_wp2_with fail
        go_roundw
        case rel => exact ⟨k + 1, by omega, by go_num, any_take_step HAN.out hlt (by rw [HEK.out, HPE.out]; rfl), (by repeat' (first | (with_reducible exact Below.refl _ _) | (with_reducible (refine Below.setCell ?_ ?_ _)) | (with_reducible (refine Below.alloc ?_ ?_ _)) | (with_reducible (refine Below.drew ?_)) | (with_reducible (refine below_via ?_ HB5.out ?_)) | (with_reducible (refine below_via ?_ HBW.out ?_)) | omega | (simp; done) | (simp; omega)))⟩
        case measure => simp [intOf]; omega
      · cases o2
        · go_wp2_with fail
          refine Calls.mono (HOK.out _) ?_
          rintro e w5 ⟨rfl, hb5⟩
          have hs5 := hb5.size
          try simp at hs5
          have hc5_0 := fun o => (bcell hb5).1 (w.heap.size + 1) o (by first | omega | (simp; done) | (simp; omega))
          have hf5_0 := fun o => (bcell hb5).2.1 (w.heap.size + 1) o (by first | omega | (simp; done) | (simp; omega))
          have hz5_0 := (bcell hb5).2.2 (w.heap.size + 1) (by first | omega | (simp; done) | (simp; omega))
          have hc5_1 := fun o => (bcell hb5).1 (wr.heap.size) o (by first | omega | (simp; done) | (simp; omega))
          have hf5_1 := fun o => (bcell hb5).2.1 (wr.heap.size) o (by first | omega | (simp; done) | (simp; omega))
          have hz5_1 := (bcell hb5).2.2 (wr.heap.size) (by first | omega | (simp; done) | (simp; omega))
          have hc5_2 := fun o => (bcell hb5).1 (wr.heap.size + 1) o (by first | omega | (simp; done) | (simp; omega))
          have hf5_2 := fun o => (bcell hb5).2.1 (wr.heap.size + 1) o (by first | omega | (simp; done) | (simp; omega))
          have hz5_2 := (bcell hb5).2.2 (wr.heap.size + 1) (by first | omega | (simp; done) | (simp; omega))
          have HB5 := Lib.hid hb5
          clear hb5
          go_wp2_with fail
          refine Calls.mono (HLK.out _) ?_
          rintro e w6 ⟨rfl, hb6⟩
          have hs6 := hb6.size
          try simp at hs6
          have hc6_0 := fun o => (bcell hb6).1 (w.heap.size + 1) o (by first | omega | (simp; done) | (simp; omega))
          have hf6_0 := fun o => (bcell hb6).2.1 (w.heap.size + 1) o (by first | omega | (simp; done) | (simp; omega))
          have hz6_0 := (bcell hb6).2.2 (w.heap.size + 1) (by first | omega | (simp; done) | (simp; omega))
          have hc6_1 := fun o => (bcell hb6).1 (wr.heap.size) o (by first | omega | (simp; done) | (simp; omega))
          have hf6_1 := fun o => (bcell hb6).2.1 (wr.heap.size) o (by first | omega | (simp; done) | (simp; omega))
          have hz6_1 := (bcell hb6).2.2 (wr.heap.size) (by first | omega | (simp; done) | (simp; omega))
          have hc6_2 := fun o => (bcell hb6).1 (wr.heap.size + 1) o (by first | omega | (simp; done) | (simp; omega))
          have hf6_2 := fun o => (bcell hb6).2.1 (wr.heap.size + 1) o (by first | omega | (simp; done) | (simp; omega))
          have hz6_2 := (bcell hb6).2.2 (wr.heap.size + 1) (by first | omega | (simp; done) | (simp; omega))
          have HB6 := Lib.hid hb6
          clear hb6
          go_wp2_with fail
          go_roundw
          case rel => exact ⟨k + 1, by omega, by go_num, any_take_step HAN.out hlt (by rw [HEK.out, HPE.out]; rfl), (by repeat' (first | (with_reducible exact Below.refl _ _) | (with_reducible (refine Below.setCell ?_ ?_ _)) | (with_reducible (refine Below.alloc ?_ ?_ _)) | (with_reducible (refine Below.drew ?_)) | (with_reducible (refine below_via ?_ HB6.out ?_)) | (with_reducible (refine below_via ?_ HB5.out ?_)) | (with_reducible (refine below_via ?_ HBW.out ?_)) | omega | (simp; done) | (simp; omega)))⟩
          case measure => simp [intOf]; omega
        · go_wp2_with fail
          refine Calls.mono (HOK.out _) ?_
          rintro e w5 ⟨rfl, hb5⟩
          have hs5 := hb5.size
          try simp at hs5
          have hc5_0 := fun o => (bcell hb5).1 (w.heap.size + 1) o (by first | omega | (simp; done) | (simp; omega))
          have hf5_0 := fun o => (bcell hb5).2.1 (w.heap.size + 1) o (by first | omega | (simp; done) | (simp; omega))
          have hz5_0 := (bcell hb5).2.2 (w.heap.size + 1) (by first | omega | (simp; done) | (simp; omega))
          have hc5_1 := fun o => (bcell hb5).1 (wr.heap.size) o (by first | omega | (simp; done) | (simp; omega))
          have hf5_1 := fun o => (bcell hb5).2.1 (wr.heap.size) o (by first | omega | (simp; done) | (simp; omega))
          have hz5_1 := (bcell hb5).2.2 (wr.heap.size) (by first | omega | (simp; done) | (simp; omega))
          have hc5_2 := fun o => (bcell hb5).1 (wr.heap.size + 1) o (by first | omega | (simp; done) | (simp; omega))
          have hf5_2 := fun o => (bcell hb5).2.1 (wr.heap.size + 1) o (by first | omega | (simp; done) | (simp; omega))
          have hz5_2 := (bcell hb5).2.2 (wr.heap.size + 1) (by first | omega | (simp; done) | (simp; omega))
          have HB5 := Lib.hid hb5
          clear hb5
          go_wp2_with fail
          refine Calls.mono (HLK.out _) ?_
          rintro e w6 ⟨rfl, hb6⟩
          have hs6 := hb6.size
          try simp at hs6
          have hc6_0 := fun o => (bcell hb6).1 (w.heap.size + 1) o (by first | omega | (simp; done) | (simp; omega))
          have hf6_0 := fun o => (bcell hb6).2.1 (w.heap.size + 1) o (by first | omega | (simp; done) | (simp; omega))
          have hz6_0 := (bcell hb6).2.2 (w.heap.size + 1) (by first | omega | (simp; done) | (simp; omega))
          have hc6_1 := fun o => (bcell hb6).1 (wr.heap.size) o (by first | omega | (simp; done) | (simp; omega))
          have hf6_1 := fun o => (bcell hb6).2.1 (wr.heap.size) o (by first | omega | (simp; done) | (simp; omega))
          have hz6_1 := (bcell hb6).2.2 (wr.heap.size) (by first | omega | (simp; done) | (simp; omega))
          have hc6_2 := fun o => (bcell hb6).1 (wr.heap.size + 1) o (by first | omega | (simp; done) | (simp; omega))
          have hf6_2 := fun o => (bcell hb6).2.1 (wr.heap.size + 1) o (by first | omega | (simp; done) | (simp; omega))
          have hz6_2 := (bcell hb6).2.2 (wr.heap.size + 1) (by first | omega | (simp; done) | (simp; omega))
          have HB6 := Lib.hid hb6
          clear hb6
          have HX6 := Lib.hid (show w6.heap[w.heap.size + 1]? = some (.cells #[.int .i64 0, .int .i64 0, .int .i64 0, .bool false, .int .i64 0, .int .i64 0, .int .i64 0, .int .i64 0, .bool false, .bool false, .bool false, .bool false, .bool false, .int .i64 0] entT (0, 0)) from (by repeat (first | (with_reducible assumption) | (with_reducible exact HXW.out) | (with_reducible refine heap_below_is HB6.out (by (first | omega | (simp; done) | (simp; omega))) ?_) | (with_reducible refine heap_below_is HB5.out (by (first | omega | (simp; done) | (simp; omega))) ?_) | (exact heap_at _ _ (by simp; done)) | (with_reducible refine heap_old_is _ _ (by (first | omega | (simp; done) | (simp; omega))) ?_) | (with_reducible refine heap_far_is (by (first | omega | (simp; done) | (simp; omega))) ?_))))
          have x6 := fun j => cell_of_row _ _ j _ _ _ HX6.out
          have xf6 := fun j => frozen_of_row _ _ j _ _ HX6.out
          clear hc6_0 hf6_0 hc5_0 hf5_0 x12 xf12
          go_wp2
          have hhit := found_hit HAN.out hlt HEK.out HPE.out
          have HHT := Lib.hid (show foundR es p = ⟨a0, a1, a2, a3, a4, a5, a6, a7, a8, a9, a10, a11, a12, a13⟩ ∧ foundX es p = 0 by rw [← HE'.out]; exact hhit)
          clear hhit
          refine bodyPost_ret (v := .tuple #[.agg #[.int .i64 a0, .int .i64 a1, .int .i64 a2, .bool a3, .int .i64 a4, .int .i64 a5, .int .i64 a6, .int .i64 a7, .bool a8, .bool a9, .bool a10, .bool a11, .bool a12, .int .i64 a13], .int .i64 0]) (by simp [results, Try.results71, go_sem, *]) rfl ⟨by rw [HHT.out.1, HHT.out.2]; rfl, ?_⟩
          repeat' (first | (with_reducible exact Below.refl _ _) | (with_reducible (refine Below.setCell ?_ ?_ _)) | (with_reducible (refine Below.alloc ?_ ?_ _)) | (with_reducible (refine Below.drew ?_)) | (with_reducible (refine below_via ?_ HB6.out ?_)) | (with_reducible (refine below_via ?_ HB5.out ?_)) | (with_reducible (refine below_via ?_ HBW.out ?_)) | (with_reducible (refine below_via ?_ HBX.out ?_)) | omega | (simp; done) | (simp; omega))
    · have hki : ¬ (k : Int) < es.length := by omega
      have HNO := Lib.hid (found_none HAN.out (show es.length ≤ k by omega))
      go_wp2
      refine bodyPost_ret (v := .tuple #[.agg #[.int .i64 0, .int .i64 0, .int .i64 0, .bool false, .int .i64 0, .int .i64 0, .int .i64 0, .int .i64 0, .bool false, .bool false, .bool false, .bool false, .bool false, .int .i64 0], .int .i64 3]) (by simp [results, Try.results71, go_sem, *]) rfl ⟨by rw [HNO.out.1, HNO.out.2]; rfl, ?_⟩
      repeat' (first | (with_reducible exact Below.refl _ _) | (with_reducible (refine Below.setCell ?_ ?_ _)) | (with_reducible (refine Below.alloc ?_ ?_ _)) | (with_reducible (refine Below.drew ?_)) | (with_reducible (refine below_via ?_ HBW.out ?_)) | (with_reducible (refine below_via ?_ HBX.out ?_)) | omega | (simp; done) | (simp; omega))

end Go.Proofs.Ytbaninglcafhhaa
