/-
  The deepest table that is remembered: the program's search. Conditions: it reads.
-/
import Derived.Test.YtbaninglcafhhaaWalkP
import Derived.Test.YtbaninglcafhhaaPut
import Derived.Test.YtbaninglcafhhaaBox14
namespace Go.Proofs.Ytbaninglcafhhaa
open Go.RowKit

def walkOk (t : Tl) (vmid asid page : Int) : Bool := tlbOk t.es t.ds && ((numOk vmid 15 && numOk asid 15) && numOk page 4095)
def bestE (es : List Ent) (p : Ent → Bool) : Ent := bestN es p es.length
def bestX (es : List Ent) (p : Ent → Bool) : Int := if (bestE es p).level = 0 then 3 else 0

set_option maxRecDepth 100000 in
set_option maxHeartbeats 4000000 in
theorem Walk_no (t : Tl) (vmid asid page : Int) (w : World) (h : TlAt w t) (hno : walkOk t vmid asid page = false) :
    Calls Try.prog 57 #[.agg t.cells.toArray, .int .i64 vmid, .int .i64 asid, .int .i64 page] w fun y w' => y = .returned (.tuple #[.agg #[.int .i64 0, .int .i64 0, .int .i64 0, .bool false, .int .i64 0, .int .i64 0, .int .i64 0, .int .i64 0, .bool false, .bool false, .bool false, .bool false, .bool false, .int .i64 0], .int .i64 1]) ∧ Below w.heap.size w w' := by
  have HC := Lib.hid (fun W (hb : Below w.heap.size w W) => Check_any t W (h.below hb))
  have HW2 := Lib.hid (fun W b (hb : b = W.heap.size) => win2 15 vmid asid W b 3 hb)
  have HW1 := Lib.hid (fun W b (hb : b = W.heap.size) => win1 4095 page W b 3 hb)
  unfold walkOk at hno
  obtain ⟨ea, ec, es, da, dc, ds⟩ := t
  dsimp only [Tl.cells] at *
  generalize tlbOk es ds = g1 at *
  generalize (numOk vmid 15 && numOk asid 15) = g3 at *
  generalize numOk page 4095 = g4 at *
  have E0 : okErr false = 1 := rfl
  have E1 : okErr true = 0 := rfl
  clear h
  cases g1
  · clear hno
    go_enter Try.func57, Try.ntmps57
    go_wp2_with fail
    refine Calls.mono (HC.out _ (by repeat' (first | (with_reducible exact Below.refl _ _) | (with_reducible (refine Below.setCell ?_ ?_ _)) | (with_reducible (refine Below.alloc ?_ ?_ _)) | (with_reducible (refine Below.drew ?_)) | omega | (simp; done) | (simp; omega)))) ?_
    rintro e w2 ⟨rfl, hb2⟩
    have hs2 := hb2.size
    try simp at hs2
    have hc2_0 := fun o => (bcell hb2).1 (w.heap.size) o (by first | omega | (simp; done) | (simp; omega))
    have hf2_0 := fun o => (bcell hb2).2.1 (w.heap.size) o (by first | omega | (simp; done) | (simp; omega))
    have hz2_0 := (bcell hb2).2.2 (w.heap.size) (by first | omega | (simp; done) | (simp; omega))
    have hc2_1 := fun o => (bcell hb2).1 (w.heap.size + 1) o (by first | omega | (simp; done) | (simp; omega))
    have hf2_1 := fun o => (bcell hb2).2.1 (w.heap.size + 1) o (by first | omega | (simp; done) | (simp; omega))
    have hz2_1 := (bcell hb2).2.2 (w.heap.size + 1) (by first | omega | (simp; done) | (simp; omega))
    have HB2 := Lib.hid hb2
    clear hb2
    go_wp2
    refine bodyPost_ret (v := .tuple #[.agg #[.int .i64 0, .int .i64 0, .int .i64 0, .bool false, .int .i64 0, .int .i64 0, .int .i64 0, .int .i64 0, .bool false, .bool false, .bool false, .bool false, .bool false, .int .i64 0], .int .i64 1]) (by simp [results, Try.results57, go_sem, *]) rfl ⟨rfl, ?_⟩
    repeat' (first | (with_reducible exact Below.refl _ _) | (with_reducible (refine Below.setCell ?_ ?_ _)) | (with_reducible (refine Below.alloc ?_ ?_ _)) | (with_reducible (refine Below.drew ?_)) | (with_reducible (refine below_via ?_ HB2.out ?_)) | omega | (simp; done) | (simp; omega))
  · cases g3
    · clear hno
      go_enter Try.func57, Try.ntmps57
      go_wp2_with fail
      refine Calls.mono (HC.out _ (by repeat' (first | (with_reducible exact Below.refl _ _) | (with_reducible (refine Below.setCell ?_ ?_ _)) | (with_reducible (refine Below.alloc ?_ ?_ _)) | (with_reducible (refine Below.drew ?_)) | omega | (simp; done) | (simp; omega)))) ?_
      rintro e w2 ⟨rfl, hb2⟩
      have hs2 := hb2.size
      try simp at hs2
      have hc2_0 := fun o => (bcell hb2).1 (w.heap.size) o (by first | omega | (simp; done) | (simp; omega))
      have hf2_0 := fun o => (bcell hb2).2.1 (w.heap.size) o (by first | omega | (simp; done) | (simp; omega))
      have hz2_0 := (bcell hb2).2.2 (w.heap.size) (by first | omega | (simp; done) | (simp; omega))
      have hc2_1 := fun o => (bcell hb2).1 (w.heap.size + 1) o (by first | omega | (simp; done) | (simp; omega))
      have hf2_1 := fun o => (bcell hb2).2.1 (w.heap.size + 1) o (by first | omega | (simp; done) | (simp; omega))
      have hz2_1 := (bcell hb2).2.2 (w.heap.size + 1) (by first | omega | (simp; done) | (simp; omega))
      have HB2 := Lib.hid hb2
      clear hb2
      go_wp2_with fail
      refine Calls.mono (HW2.out _ _ rfl) ?_
      rintro e w3 ⟨rfl, hb3⟩
      have hs3 := hb3.size
      try simp at hs3
      have hc3_0 := fun o => (bcell hb3).1 (w.heap.size) o (by first | omega | (simp; done) | (simp; omega))
      have hf3_0 := fun o => (bcell hb3).2.1 (w.heap.size) o (by first | omega | (simp; done) | (simp; omega))
      have hz3_0 := (bcell hb3).2.2 (w.heap.size) (by first | omega | (simp; done) | (simp; omega))
      have hc3_1 := fun o => (bcell hb3).1 (w.heap.size + 1) o (by first | omega | (simp; done) | (simp; omega))
      have hf3_1 := fun o => (bcell hb3).2.1 (w.heap.size + 1) o (by first | omega | (simp; done) | (simp; omega))
      have hz3_1 := (bcell hb3).2.2 (w.heap.size + 1) (by first | omega | (simp; done) | (simp; omega))
      have HB3 := Lib.hid hb3
      clear hb3
      go_wp2
      refine bodyPost_ret (v := .tuple #[.agg #[.int .i64 0, .int .i64 0, .int .i64 0, .bool false, .int .i64 0, .int .i64 0, .int .i64 0, .int .i64 0, .bool false, .bool false, .bool false, .bool false, .bool false, .int .i64 0], .int .i64 1]) (by simp [results, Try.results57, go_sem, *]) rfl ⟨rfl, ?_⟩
      repeat' (first | (with_reducible exact Below.refl _ _) | (with_reducible (refine Below.setCell ?_ ?_ _)) | (with_reducible (refine Below.alloc ?_ ?_ _)) | (with_reducible (refine Below.drew ?_)) | (with_reducible (refine below_via ?_ HB3.out ?_)) | (with_reducible (refine below_via ?_ HB2.out ?_)) | omega | (simp; done) | (simp; omega))
    · obtain rfl : g4 = false := by simpa using hno
      clear hno
      go_enter Try.func57, Try.ntmps57
      go_wp2_with fail
      refine Calls.mono (HC.out _ (by repeat' (first | (with_reducible exact Below.refl _ _) | (with_reducible (refine Below.setCell ?_ ?_ _)) | (with_reducible (refine Below.alloc ?_ ?_ _)) | (with_reducible (refine Below.drew ?_)) | omega | (simp; done) | (simp; omega)))) ?_
      rintro e w2 ⟨rfl, hb2⟩
      have hs2 := hb2.size
      try simp at hs2
      have hc2_0 := fun o => (bcell hb2).1 (w.heap.size) o (by first | omega | (simp; done) | (simp; omega))
      have hf2_0 := fun o => (bcell hb2).2.1 (w.heap.size) o (by first | omega | (simp; done) | (simp; omega))
      have hz2_0 := (bcell hb2).2.2 (w.heap.size) (by first | omega | (simp; done) | (simp; omega))
      have hc2_1 := fun o => (bcell hb2).1 (w.heap.size + 1) o (by first | omega | (simp; done) | (simp; omega))
      have hf2_1 := fun o => (bcell hb2).2.1 (w.heap.size + 1) o (by first | omega | (simp; done) | (simp; omega))
      have hz2_1 := (bcell hb2).2.2 (w.heap.size + 1) (by first | omega | (simp; done) | (simp; omega))
      have HB2 := Lib.hid hb2
      clear hb2
      go_wp2_with fail
      refine Calls.mono (HW2.out _ _ rfl) ?_
      rintro e w3 ⟨rfl, hb3⟩
      have hs3 := hb3.size
      try simp at hs3
      have hc3_0 := fun o => (bcell hb3).1 (w.heap.size) o (by first | omega | (simp; done) | (simp; omega))
      have hf3_0 := fun o => (bcell hb3).2.1 (w.heap.size) o (by first | omega | (simp; done) | (simp; omega))
      have hz3_0 := (bcell hb3).2.2 (w.heap.size) (by first | omega | (simp; done) | (simp; omega))
      have hc3_1 := fun o => (bcell hb3).1 (w.heap.size + 1) o (by first | omega | (simp; done) | (simp; omega))
      have hf3_1 := fun o => (bcell hb3).2.1 (w.heap.size + 1) o (by first | omega | (simp; done) | (simp; omega))
      have hz3_1 := (bcell hb3).2.2 (w.heap.size + 1) (by first | omega | (simp; done) | (simp; omega))
      have HB3 := Lib.hid hb3
      clear hb3
      go_wp2_with fail
      refine Calls.mono (HW1.out _ _ rfl) ?_
      rintro e w4 ⟨rfl, hb4⟩
      have hs4 := hb4.size
      try simp at hs4
      have hc4_0 := fun o => (bcell hb4).1 (w.heap.size) o (by first | omega | (simp; done) | (simp; omega))
      have hf4_0 := fun o => (bcell hb4).2.1 (w.heap.size) o (by first | omega | (simp; done) | (simp; omega))
      have hz4_0 := (bcell hb4).2.2 (w.heap.size) (by first | omega | (simp; done) | (simp; omega))
      have hc4_1 := fun o => (bcell hb4).1 (w.heap.size + 1) o (by first | omega | (simp; done) | (simp; omega))
      have hf4_1 := fun o => (bcell hb4).2.1 (w.heap.size + 1) o (by first | omega | (simp; done) | (simp; omega))
      have hz4_1 := (bcell hb4).2.2 (w.heap.size + 1) (by first | omega | (simp; done) | (simp; omega))
      have HB4 := Lib.hid hb4
      clear hb4
      go_wp2
      refine bodyPost_ret (v := .tuple #[.agg #[.int .i64 0, .int .i64 0, .int .i64 0, .bool false, .int .i64 0, .int .i64 0, .int .i64 0, .int .i64 0, .bool false, .bool false, .bool false, .bool false, .bool false, .int .i64 0], .int .i64 1]) (by simp [results, Try.results57, go_sem, *]) rfl ⟨rfl, ?_⟩
      repeat' (first | (with_reducible exact Below.refl _ _) | (with_reducible (refine Below.setCell ?_ ?_ _)) | (with_reducible (refine Below.alloc ?_ ?_ _)) | (with_reducible (refine Below.drew ?_)) | (with_reducible (refine below_via ?_ HB4.out ?_)) | (with_reducible (refine below_via ?_ HB3.out ?_)) | (with_reducible (refine below_via ?_ HB2.out ?_)) | omega | (simp; done) | (simp; omega))

set_option maxRecDepth 100000 in
set_option maxHeartbeats 4000000 in
theorem Walk_yes (t : Tl) (vmid asid page : Int) (w : World) (h : TlAt w t) (hok : walkOk t vmid asid page = true) :
    Calls Try.prog 57 #[.agg t.cells.toArray, .int .i64 vmid, .int .i64 asid, .int .i64 page] w fun y w' => y = .returned (.tuple #[.agg (bestE t.es (fun e => ofE e 3 vmid asid page)).cells.toArray, .int .i64 (bestX t.es (fun e => ofE e 3 vmid asid page))]) ∧ Below w.heap.size w w' := by
  have HC := Lib.hid (fun W (hb : Below w.heap.size w W) => Check_any t W (h.below hb))
  have HW2 := Lib.hid (fun W b (hb : b = W.heap.size) => win2 15 vmid asid W b 3 hb)
  have HW1 := Lib.hid (fun W b (hb : b = W.heap.size) => win1 4095 page W b 3 hb)
  unfold walkOk at hok
  simp only [Bool.and_eq_true] at hok
  obtain ⟨k1, ⟨k3, k4⟩, k5⟩ := hok
  obtain ⟨j1, j2, j3, j4⟩ := tlbOk_ents k1
  have hpg := k5
  unfold numOk at hpg
  simp only [Bool.and_eq_true, decide_eq_true_eq] at hpg
  have HOF := Lib.hid (fun e W (he : e ∈ t.es) => of_any e 3 vmid asid page W (j3 e he) hpg.1 hpg.2)
  have HE := Lib.hid h.eat
  obtain ⟨p, hp⟩ : ∃ p : Ent → Bool, p = fun e => ofE e 3 vmid asid page := ⟨_, rfl⟩
  rw [← hp]
  have HP := Lib.hid (fun e => congrFun hp e)
  obtain ⟨ea, ec, es, da, dc, ds⟩ := t
  dsimp only [Tl.cells] at *
  rw [k1] at HC
  rw [k3, k4] at HW2
  rw [k5] at HW1
  rw [show okErr true = 0 from rfl] at HC
  rw [show (true && true) = true from rfl] at HW2
  clear h k1 k3 k4 k5 hpg hp j3 j4
  go_enter Try.func57, Try.ntmps57
  go_wp2_with fail
  refine Calls.mono (HC.out _ (by repeat' (first | (with_reducible exact Below.refl _ _) | (with_reducible (refine Below.setCell ?_ ?_ _)) | (with_reducible (refine Below.alloc ?_ ?_ _)) | (with_reducible (refine Below.drew ?_)) | omega | (simp; done) | (simp; omega)))) ?_
  rintro e w2 ⟨rfl, hb2⟩
  have hs2 := hb2.size
  try simp at hs2
  have hc2_0 := fun o => (bcell hb2).1 (w.heap.size) o (by first | omega | (simp; done) | (simp; omega))
  have hf2_0 := fun o => (bcell hb2).2.1 (w.heap.size) o (by first | omega | (simp; done) | (simp; omega))
  have hz2_0 := (bcell hb2).2.2 (w.heap.size) (by first | omega | (simp; done) | (simp; omega))
  have hc2_1 := fun o => (bcell hb2).1 (w.heap.size + 1) o (by first | omega | (simp; done) | (simp; omega))
  have hf2_1 := fun o => (bcell hb2).2.1 (w.heap.size + 1) o (by first | omega | (simp; done) | (simp; omega))
  have hz2_1 := (bcell hb2).2.2 (w.heap.size + 1) (by first | omega | (simp; done) | (simp; omega))
  have HB2 := Lib.hid hb2
  clear hb2
  go_wp2_with fail
  refine Calls.mono (HW2.out _ _ rfl) ?_
  rintro e w3 ⟨rfl, hb3⟩
  have hs3 := hb3.size
  try simp at hs3
  have hc3_0 := fun o => (bcell hb3).1 (w.heap.size) o (by first | omega | (simp; done) | (simp; omega))
  have hf3_0 := fun o => (bcell hb3).2.1 (w.heap.size) o (by first | omega | (simp; done) | (simp; omega))
  have hz3_0 := (bcell hb3).2.2 (w.heap.size) (by first | omega | (simp; done) | (simp; omega))
  have hc3_1 := fun o => (bcell hb3).1 (w.heap.size + 1) o (by first | omega | (simp; done) | (simp; omega))
  have hf3_1 := fun o => (bcell hb3).2.1 (w.heap.size + 1) o (by first | omega | (simp; done) | (simp; omega))
  have hz3_1 := (bcell hb3).2.2 (w.heap.size + 1) (by first | omega | (simp; done) | (simp; omega))
  have HB3 := Lib.hid hb3
  clear hb3
  go_wp2_with fail
  refine Calls.mono (HW1.out _ _ rfl) ?_
  rintro e w4 ⟨rfl, hb4⟩
  have hs4 := hb4.size
  try simp at hs4
  have hc4_0 := fun o => (bcell hb4).1 (w.heap.size) o (by first | omega | (simp; done) | (simp; omega))
  have hf4_0 := fun o => (bcell hb4).2.1 (w.heap.size) o (by first | omega | (simp; done) | (simp; omega))
  have hz4_0 := (bcell hb4).2.2 (w.heap.size) (by first | omega | (simp; done) | (simp; omega))
  have hc4_1 := fun o => (bcell hb4).1 (w.heap.size + 1) o (by first | omega | (simp; done) | (simp; omega))
  have hf4_1 := fun o => (bcell hb4).2.1 (w.heap.size + 1) o (by first | omega | (simp; done) | (simp; omega))
  have hz4_1 := (bcell hb4).2.2 (w.heap.size + 1) (by first | omega | (simp; done) | (simp; omega))
  have HB4 := Lib.hid hb4
  clear hb4
  go_wp2_with fail
  refine name_world ?_
  intro wo hwo
  have HBX := Lib.hid (show Below w.heap.size w wo by rw [hwo]; repeat' (first | (with_reducible exact Below.refl _ _) | (with_reducible (refine Below.setCell ?_ ?_ _)) | (with_reducible (refine Below.alloc ?_ ?_ _)) | (with_reducible (refine Below.drew ?_)) | (with_reducible (refine below_via ?_ HB4.out ?_)) | (with_reducible (refine below_via ?_ HB3.out ?_)) | (with_reducible (refine below_via ?_ HB2.out ?_)) | omega | (simp; done) | (simp; omega)))
  have HX8 := Lib.hid (show wo.heap[w.heap.size + 1]? = some (.cells #[.int .i64 0, .int .i64 0, .int .i64 0, .bool false, .int .i64 0, .int .i64 0, .int .i64 0, .int .i64 0, .bool false, .bool false, .bool false, .bool false, .bool false, .int .i64 0] entT (0, 0)) by rw [hwo]; exact (by repeat (first | (with_reducible assumption) | (with_reducible refine heap_below_is HB4.out (by (first | omega | (simp; done) | (simp; omega))) ?_) | (with_reducible refine heap_below_is HB3.out (by (first | omega | (simp; done) | (simp; omega))) ?_) | (with_reducible refine heap_below_is HB2.out (by (first | omega | (simp; done) | (simp; omega))) ?_) | (exact heap_at _ _ (by simp; done)) | (with_reducible refine heap_old_is _ _ (by (first | omega | (simp; done) | (simp; omega))) ?_) | (with_reducible refine heap_far_is (by (first | omega | (simp; done) | (simp; omega))) ?_))))
  have HX10 := Lib.hid (show wo.heap[w4.heap.size]? = some (.cells #[.int .i64 0, .int .i64 0, .int .i64 0, .bool false, .int .i64 0, .int .i64 0, .int .i64 0, .int .i64 0, .bool false, .bool false, .bool false, .bool false, .bool false, .int .i64 0] entT (0, 0)) by rw [hwo]; exact heap_new _ _)
  have hs8 : w.heap.size + 1 < w4.heap.size := by omega
  have hx4 := heap_lt HX10.out
  clear hwo hc2_0 hf2_0 hz2_0 hc2_1 hf2_1 hz2_1 hc3_0 hf3_0 hz3_0 hc3_1 hf3_1 hz3_1 hc4_0 hf4_0 hz4_0 hc4_1 hf4_1 hz4_1
  go_loopw [33] (fun i wr => ∃ k : Nat, k ≤ es.length ∧ i = .int .i64 k ∧ wr.heap[w4.heap.size]? = some (.cells (bestN es p k).cells.toArray entT (0, 0)) ∧ Below w4.heap.size wo wr) (fun i _ => es.length - (intOf i).toNat)
  case atStart => exact ⟨0, Nat.zero_le _, rfl, HX10.out, Below.refl _ _⟩
  case round =>
    obtain ⟨k, hk, rfl, hxb, hbw⟩ := hrel
    have HXB := Lib.hid hxb
    have HBW := Lib.hid hbw
    have hsw := hbw.size
    have HXW := Lib.hid ((hbw.block _ hs8).trans HX8.out)
    clear hxb hbw
    by_cases hlt : k < es.length
    · have hki : (k : Int) < es.length := by omega
      have HBR := Lib.hid (below_via HBX.out HBW.out (by omega))
      obtain ⟨be, oe, rfl, hbe, hce⟩ := at_cells HE.out HBR.out hlt
      have HOK := Lib.hid (fun W => HOF.out es[k] W (List.getElem_mem hlt))
      obtain ⟨e, hek⟩ : ∃ e, es[k] = e := ⟨_, rfl⟩
      have HBS := Lib.hid (best_step (p := p) hlt hek)
      rw [hek] at hce HOK
      clear hek
      rw [HP.out e] at HBS
      have c0 := hce 0 _ rfl
      have c1 := hce 1 _ rfl
      have c2 := hce 2 _ rfl
      have c3 := hce 3 _ rfl
      have c4 := hce 4 _ rfl
      have c5 := hce 5 _ rfl
      have c6 := hce 6 _ rfl
      have c7 := hce 7 _ rfl
      have c8 := hce 8 _ rfl
      have c9 := hce 9 _ rfl
      have c10 := hce 10 _ rfl
      have c11 := hce 11 _ rfl
      have c12 := hce 12 _ rfl
      have c13 := hce 13 _ rfl
      simp only [Nat.add_zero] at c0
      clear hce
      have hbe2 : be < wr.heap.size := by have := HBR.out.size; omega
      obtain ⟨o1, ho1⟩ : ∃ x, ofE e 3 vmid asid page = x := ⟨_, rfl⟩
      rw [ho1] at HOK HBS
      clear ho1
      generalize bestN es p k = bb at *
      obtain ⟨b0, b1, b2, b3, b4, b5, b6, b7, b8, b9, b10, b11, b12, b13⟩ := bb
      obtain ⟨a0, a1, a2, a3, a4, a5, a6, a7, a8, a9, a10, a11, a12, a13⟩ := e
      dsimp only [Ent.cells] at *
      have x10 := fun j => cell_of_row _ _ j _ _ _ HXB.out
      have xf10 := fun j => frozen_of_row _ _ j _ _ HXB.out
      have hxw := heap_lt HXB.out
      cases o1
      · have HBT := Lib.hid (show bestN es p (k + 1) = ⟨b0, b1, b2, b3, b4, b5, b6, b7, b8, b9, b10, b11, b12, b13⟩ from HBS.out)
        go_wp2_with fail
        refine Calls.mono (HOK.out _) ?_
        rintro e w5 ⟨rfl, hb5⟩
        have hs5 := hb5.size
        try simp at hs5
        have hc5_0 := fun o => (bcell hb5).1 (w4.heap.size) o (by first | omega | (simp; done) | (simp; omega))
        have hf5_0 := fun o => (bcell hb5).2.1 (w4.heap.size) o (by first | omega | (simp; done) | (simp; omega))
        have hz5_0 := (bcell hb5).2.2 (w4.heap.size) (by first | omega | (simp; done) | (simp; omega))
        have hc5_1 := fun o => (bcell hb5).1 (wr.heap.size) o (by first | omega | (simp; done) | (simp; omega))
        have hf5_1 := fun o => (bcell hb5).2.1 (wr.heap.size) o (by first | omega | (simp; done) | (simp; omega))
        have hz5_1 := (bcell hb5).2.2 (wr.heap.size) (by first | omega | (simp; done) | (simp; omega))
        have HB5 := Lib.hid hb5
        clear hb5
        go_wp2_with fail
        go_roundw
        case rel => exact ⟨k + 1, by omega, by go_num, by rw [HBT.out]; exact (show _ = some (Obj.cells #[.int .i64 b0, .int .i64 b1, .int .i64 b2, .bool b3, .int .i64 b4, .int .i64 b5, .int .i64 b6, .int .i64 b7, .bool b8, .bool b9, .bool b10, .bool b11, .bool b12, .int .i64 b13] entT (0, 0)) from (by repeat (first | (with_reducible assumption) | (with_reducible exact HXB.out) | (with_reducible refine heap_below_is HB5.out (by (first | omega | (simp; done) | (simp; omega))) ?_) | (exact heap_at _ _ (by simp; done)) | (with_reducible refine heap_old_is _ _ (by (first | omega | (simp; done) | (simp; omega))) ?_) | (with_reducible refine heap_far_is (by (first | omega | (simp; done) | (simp; omega))) ?_)))), (by repeat' (first | (with_reducible exact Below.refl _ _) | (with_reducible (refine Below.setCell ?_ ?_ _)) | (with_reducible (refine Below.alloc ?_ ?_ _)) | (with_reducible (refine Below.drew ?_)) | (with_reducible (refine below_via ?_ HB5.out ?_)) | (with_reducible (refine below_via ?_ HBW.out ?_)) | omega | (simp; done) | (simp; omega)))⟩
        case measure => simp [intOf]; omega
      · by_cases hlv : b5 < a5
        · have hq : decide (b5 < a5) = true := by simpa using hlv
          have HBT := Lib.hid (show bestN es p (k + 1) = ⟨a0, a1, a2, a3, a4, a5, a6, a7, a8, a9, a10, a11, a12, a13⟩ from by rw [HBS.out, hq]; rfl)
          go_wp2_with fail
          refine Calls.mono (HOK.out _) ?_
          rintro e w5 ⟨rfl, hb5⟩
          have hs5 := hb5.size
          try simp at hs5
          have hc5_0 := fun o => (bcell hb5).1 (wr.heap.size) o (by first | omega | (simp; done) | (simp; omega))
          have hf5_0 := fun o => (bcell hb5).2.1 (wr.heap.size) o (by first | omega | (simp; done) | (simp; omega))
          have hz5_0 := (bcell hb5).2.2 (wr.heap.size) (by first | omega | (simp; done) | (simp; omega))
          have HB5 := Lib.hid hb5
          clear hb5
          have HX5 := Lib.hid (show w5.heap[w4.heap.size]? = some (.cells #[.int .i64 b0, .int .i64 b1, .int .i64 b2, .bool b3, .int .i64 b4, .int .i64 b5, .int .i64 b6, .int .i64 b7, .bool b8, .bool b9, .bool b10, .bool b11, .bool b12, .int .i64 b13] entT (0, 0)) from (by repeat (first | (with_reducible assumption) | (with_reducible exact HXB.out) | (with_reducible refine heap_below_is HB5.out (by (first | omega | (simp; done) | (simp; omega))) ?_) | (exact heap_at _ _ (by simp; done)) | (with_reducible refine heap_old_is _ _ (by (first | omega | (simp; done) | (simp; omega))) ?_) | (with_reducible refine heap_far_is (by (first | omega | (simp; done) | (simp; omega))) ?_))))
          have x5 := fun j => cell_of_row _ _ j _ _ _ HX5.out
          have xf5 := fun j => frozen_of_row _ _ j _ _ HX5.out
          clear x10 xf10
          go_wp2_with fail
          go_roundw
          case rel => exact ⟨k + 1, by omega, by go_num, by rw [HBT.out]; exact box14 _ _ _ _ _ _ _ _ _ _ _ _ _ _ _ _ _ _ _ _ _ _ _ _ _ _ _ _ HX5.out, (by repeat' (first | (with_reducible exact Below.refl _ _) | (with_reducible (refine Below.setCell ?_ ?_ _)) | (with_reducible (refine Below.alloc ?_ ?_ _)) | (with_reducible (refine Below.drew ?_)) | (with_reducible (refine below_via ?_ HB5.out ?_)) | (with_reducible (refine below_via ?_ HBW.out ?_)) | omega | (simp; done) | (simp; omega)))⟩
          case measure => simp [intOf]; omega
        · have hq : decide (b5 < a5) = false := by simpa using hlv
          have HBT := Lib.hid (show bestN es p (k + 1) = ⟨b0, b1, b2, b3, b4, b5, b6, b7, b8, b9, b10, b11, b12, b13⟩ from by rw [HBS.out, hq]; rfl)
          go_wp2_with fail
          refine Calls.mono (HOK.out _) ?_
          rintro e w5 ⟨rfl, hb5⟩
          have hs5 := hb5.size
          try simp at hs5
          have hc5_0 := fun o => (bcell hb5).1 (w4.heap.size) o (by first | omega | (simp; done) | (simp; omega))
          have hf5_0 := fun o => (bcell hb5).2.1 (w4.heap.size) o (by first | omega | (simp; done) | (simp; omega))
          have hz5_0 := (bcell hb5).2.2 (w4.heap.size) (by first | omega | (simp; done) | (simp; omega))
          have hc5_1 := fun o => (bcell hb5).1 (wr.heap.size) o (by first | omega | (simp; done) | (simp; omega))
          have hf5_1 := fun o => (bcell hb5).2.1 (wr.heap.size) o (by first | omega | (simp; done) | (simp; omega))
          have hz5_1 := (bcell hb5).2.2 (wr.heap.size) (by first | omega | (simp; done) | (simp; omega))
          have HB5 := Lib.hid hb5
          clear hb5
          go_wp2_with fail
          go_roundw
          case rel => exact ⟨k + 1, by omega, by go_num, by rw [HBT.out]; exact (show _ = some (Obj.cells #[.int .i64 b0, .int .i64 b1, .int .i64 b2, .bool b3, .int .i64 b4, .int .i64 b5, .int .i64 b6, .int .i64 b7, .bool b8, .bool b9, .bool b10, .bool b11, .bool b12, .int .i64 b13] entT (0, 0)) from (by repeat (first | (with_reducible assumption) | (with_reducible exact HXB.out) | (with_reducible refine heap_below_is HB5.out (by (first | omega | (simp; done) | (simp; omega))) ?_) | (exact heap_at _ _ (by simp; done)) | (with_reducible refine heap_old_is _ _ (by (first | omega | (simp; done) | (simp; omega))) ?_) | (with_reducible refine heap_far_is (by (first | omega | (simp; done) | (simp; omega))) ?_)))), (by repeat' (first | (with_reducible exact Below.refl _ _) | (with_reducible (refine Below.setCell ?_ ?_ _)) | (with_reducible (refine Below.alloc ?_ ?_ _)) | (with_reducible (refine Below.drew ?_)) | (with_reducible (refine below_via ?_ HB5.out ?_)) | (with_reducible (refine below_via ?_ HBW.out ?_)) | omega | (simp; done) | (simp; omega)))⟩
          case measure => simp [intOf]; omega
    · have hki : ¬ (k : Int) < es.length := by omega
      have HEND := Lib.hid (show bestE es p = bestN es p k from by unfold bestE; rw [show es.length = k by omega])
      have HENX := Lib.hid (show bestX es p = if (bestN es p k).level = 0 then 3 else 0 from by unfold bestX; rw [HEND.out])
      have x8 := fun j => cell_of_row _ _ j _ _ _ HXW.out
      have xf8 := fun j => frozen_of_row _ _ j _ _ HXW.out
      generalize bestN es p k = bb at *
      obtain ⟨b0, b1, b2, b3, b4, b5, b6, b7, b8, b9, b10, b11, b12, b13⟩ := bb
      dsimp only [Ent.cells] at *
      have x10 := fun j => cell_of_row _ _ j _ _ _ HXB.out
      have xf10 := fun j => frozen_of_row _ _ j _ _ HXB.out
      by_cases hlv : b5 = 0
      · subst hlv
        go_wp2
        refine bodyPost_ret (v := .tuple #[.agg #[.int .i64 b0, .int .i64 b1, .int .i64 b2, .bool b3, .int .i64 b4, .int .i64 0, .int .i64 b6, .int .i64 b7, .bool b8, .bool b9, .bool b10, .bool b11, .bool b12, .int .i64 b13], .int .i64 3]) (by simp [results, Try.results57, go_sem, *]) rfl ⟨by rw [HENX.out, HEND.out]; rfl, ?_⟩
        repeat' (first | (with_reducible exact Below.refl _ _) | (with_reducible (refine Below.setCell ?_ ?_ _)) | (with_reducible (refine Below.alloc ?_ ?_ _)) | (with_reducible (refine Below.drew ?_)) | (with_reducible (refine below_via ?_ HBW.out ?_)) | (with_reducible (refine below_via ?_ HBX.out ?_)) | omega | (simp; done) | (simp; omega))
      · have hq : (b5 == 0) = false := by simpa using hlv
        have HLV := Lib.hid hlv
        clear hlv
        go_wp2
        refine bodyPost_ret (v := .tuple #[.agg #[.int .i64 b0, .int .i64 b1, .int .i64 b2, .bool b3, .int .i64 b4, .int .i64 b5, .int .i64 b6, .int .i64 b7, .bool b8, .bool b9, .bool b10, .bool b11, .bool b12, .int .i64 b13], .int .i64 0]) (by simp [results, Try.results57, go_sem, *]) rfl ⟨by rw [HENX.out, HEND.out, if_neg HLV.out]; rfl, ?_⟩
        repeat' (first | (with_reducible exact Below.refl _ _) | (with_reducible (refine Below.setCell ?_ ?_ _)) | (with_reducible (refine Below.alloc ?_ ?_ _)) | (with_reducible (refine Below.drew ?_)) | (with_reducible (refine below_via ?_ HBW.out ?_)) | (with_reducible (refine below_via ?_ HBX.out ?_)) | omega | (simp; done) | (simp; omega))

end Go.Proofs.Ytbaninglcafhhaa
