/-
  slices.Delete of one entry, in a row of the call's own. Conditions: it is there.
-/
import Derived.Test.YtbaninglcafhhaaDelF
import Derived.Deep.DeepAppendRoom
import Derived.Deep.CutRange
namespace Go.Proofs.Ytbaninglcafhhaa
open Go.RowKit

theorem flat_split {l : List Ent} {i : Nat} (_hi : i ≤ l.length) : l.flatMap Ent.cells = (l.take i).flatMap Ent.cells ++ (l.drop i).flatMap Ent.cells := by
  rw [← List.flatMap_append, List.take_append_drop]
theorem own_flat {w : World} {B g c : Nat} {l : List Ent} (h : Own w B entT 14 Ent.cells l (some ⟨g, 0, none⟩) c) {j : Nat} {u : Value} (hj : (l.flatMap Ent.cells)[j]? = some u) : w.cell? ⟨g, j, none⟩ = some u := by
  obtain ⟨cur, _, h2, h3, _, h5, h6⟩ := h.parts
  rw [cell_of_row _ _ j _ _ _ h2]
  rw [← h6, List.getElem?_take] at hj
  by_cases hl : j < l.length * 14
  · rw [if_pos hl] at hj
    simpa using hj
  · rw [if_neg hl] at hj; cases hj

set_option maxRecDepth 100000 in
set_option maxHeartbeats 8000000 in
theorem Delete_ent (B g c : Nat) (l : List Ent) (i : Nat) (w : World) (hi : i < l.length) (hl : l.length ≤ 1000000) (hO : Own w B entT 14 Ent.cells l (some ⟨g, 0, none⟩) c) (hB : B ≤ w.heap.size) :
    Calls Try.prog 79 #[.slice (some ⟨g, 0, none⟩) l.length c, .int .i64 i, .int .i64 ((i : Int) + 1)] w fun e w' => e = .returned (.slice (some ⟨g, 0, none⟩) (l.take i ++ l.drop (i + 1)).length c) ∧
      Own w' B entT 14 Ent.cells (l.take i ++ l.drop (i + 1)) (some ⟨g, 0, none⟩) c ∧ Below B w w' ∧ (∀ b, b < w.heap.size → b ≠ g → w'.heap[b]? = w.heap[b]?) := by
  obtain ⟨i0, hi0, hz0, hz1, hz2⟩ := info_parts ent_info
  have HI0 := Lib.hid hi0
  have HZ1 := Lib.hid hz1
  clear hi0 hz0 hz1 hz2
  have hcap := hO.cap_
  obtain ⟨_, hbg, _, _, hcm, _, _⟩ := hO.parts
  have HO := Lib.hid hO
  clear hO
  unfold maxLen at hcm
  obtain ⟨L, hL⟩ : ∃ L, l.length = L + 1 := ⟨l.length - 1, by omega⟩
  have HLL := Lib.hid hL
  have hiL : i ≤ L := by omega
  have hnl : (l.take i ++ l.drop (i + 1)).length = L := by simp; omega
  have HNL := Lib.hid hnl
  rw [hnl, hL]
  have hLc : L + 1 ≤ c := by omega
  have hLm : L + 1 ≤ 1000000 := by omega
  clear hnl hL hi hl hcap
  have HCT := Lib.hid (fun W (hW : Own W B entT 14 Ent.cells l (some ⟨g, 0, none⟩) c) => show W.ownsRow B entT 14 (.slice (some ⟨g, 0, none⟩) i c) i ((l.take i).flatMap Ent.cells) from by
    have := hW.cut ent_len (k := i) (by rw [HLL.out]; omega)
    unfold Own at this
    rwa [List.length_take, Nat.min_eq_left (by rw [HLL.out]; omega)] at this)
  have HNW := Lib.hid (show ((l.drop (i + 1)).flatMap Ent.cells).length = (L - i) * 14 from by
    rw [flat_len Ent.cells 14 ent_len, List.length_drop, HLL.out]; congr 1; omega)
  have HN1 := Lib.hid (show ∀ u ∈ (l.drop (i + 1)).flatMap Ent.cells, u.oneCell' = true from fun u hu => ent_one u hu)
  have HNC := Lib.hid (fun W (hW : Own W B entT 14 Ent.cells l (some ⟨g, 0, none⟩) c) (j : Nat) (u : Value) (hj : ((l.drop (i + 1)).flatMap Ent.cells)[j]? = some u) => show W.cell? ⟨g, (i + 1) * 14 + j, none⟩ = some u from by
    refine own_flat hW ?_
    rw [flat_split (i := i + 1) (by rw [HLL.out]; omega)]
    have h1 : ((l.take (i + 1)).flatMap Ent.cells).length = (i + 1) * 14 := by
      rw [flat_len Ent.cells 14 ent_len, List.length_take, Nat.min_eq_left (by rw [HLL.out]; omega)]
    rw [List.getElem?_append_right (by omega), h1]
    simpa using hj)
  have hi0 : (0 : Int) ≤ (i : Int) := by omega
  have hw1 : IntKind.i64.wrap ((i : Int) + 1) = (i : Int) + 1 := IntWalk.i64_in _ (by omega)
  have hne : ((i : Int) == (i : Int) + 1) = false := by simp; omega
  go_enter Try.func79, Try.ntmps79
  go_upto_region 5 with fail
  by_cases hci : c = i + 1
  · obtain rfl : i = L := by omega
    subst hci
    clear hw1 hne
    have hc0 : (i : Int) ≤ (i + 1) := by omega
    have hc1 : (i : Int) + 1 ≤ (i : Int) + 1 := by omega
    have hc2 : (0 : Int) ≤ (i : Int) + 1 := by omega
    have hc3 : ((i : Int) + 1).toNat = i + 1 := by omega
    refine wp_region_class_tail 6 (fun w' => Below (w.heap.size) (w) w') (by kernel_rfl) (by kernel_rfl) (by kernel_rfl) (Below.refl _ _).drew ?_
    repeat (first
      | (refine wpLex_pass (by rfl) passes_plain ?_; (conv => arg 9; simp only [put_lit, put_lit_none, List.set]))
      | (refine wpLex_plain (by rfl) ?_
         apply Exists.intro
         refine ⟨?_, ?_⟩
         · intro w' hb
           have hsz := hb.size
           try simp at hsz
           have hcw := fun b o (h : b < w.heap.size) => hb.cell (p := ⟨b, o, none⟩) h
           have hfw := fun b o (h : b < w.heap.size) => hb.frozen (p := ⟨b, o, none⟩) h
           go_simp
           first
             | exact ⟨rfl, hb⟩
             | exact rfl
         conv => arg 9; simp only [put_lit, put_lit_none, List.set]))
    refine wpLex_nil ?_
    intro wq hbq
    have hsq := hbq.size
    try simp at hsq
    have hcq := fun b o (h : b < w.heap.size) => hbq.cell (p := ⟨b, o, none⟩) h
    have hfq := fun b o (h : b < w.heap.size) => hbq.frozen (p := ⟨b, o, none⟩) h
    have HBq := Lib.hid hbq
    clear hbq
    simp only [List.drop]
    have HOQ := Lib.hid (HO.out.below HBq.out (Nat.le_refl _))
    refine wpList_append_own_spare _ rfl (.tmp 22) (.tmp 25) _ rfl B entT i0 14 Try.underlying24 HI0.out HZ1.out g i (i + 1) ((l.take i).flatMap Ent.cells) rfl (HCT.out _ HOQ.out) _ _ _ ((l.drop (i + 1)).flatMap Ent.cells) rfl (by rw [HNW.out]; simp) (fun j u hj => ?_) HN1.out (by omega) ?_
    · have h1 := HNW.out
      rw [Nat.sub_self, Nat.zero_mul] at h1
      rw [List.eq_nil_of_length_eq_zero h1] at hj
      cases hj
    · intro w5 hown5 hg5
      have hsum : i + (i + 1 - (i + 1)) = i := by omega
      rw [← List.flatMap_append] at hown5
      try rw [hsum] at hown5 ⊢
      try rw [show i + (i - i) = i by omega] at hown5 ⊢
      have HO5 := Lib.hid (show Own w5 B entT 14 Ent.cells (l.take i ++ l.drop (i + 1)) (some ⟨g, 0, none⟩) (i + 1) by unfold Own; rw [HNL.out]; exact hown5)
      have HB5 := Lib.hid (show Below B wq w5 from (Below.refl _ _).grown hg5 (by omega) (fun k hk => by injection hk with hk; omega))
      have HK5 := Lib.hid (show ∀ b, b < wq.heap.size → b ≠ g → w5.heap[b]? = wq.heap[b]? from fun b hb hne => hg5.block b hb (fun e => hne (by injection e)))
      have hs5 := hg5.size
      clear hown5 hg5 hsum
      have hlen : (Builtin.zeroCells noEntV.cells 1).toList.length = 14 := by simp [Builtin.zeroCells, noEntV, Value.cells]
      have hcl2 : ∀ ty, (Builtin.clear_ #[24] ty #[.slice (some ⟨g, i * 14, none⟩) 1 1]).run Try.prog w5 = .ok (.tuple #[]) (w5.setCells g (i * 14) (Builtin.zeroCells noEntV.cells 1).toList) :=
        fun ty => run_clear_many w5 _ _ ty noEntV Try.underlying24 zero_ent g (i * 14) 1 _ (by omega) (zero_ones _)
          (fun j hj => (HO5.out.cells_ _ (by have h14 : noEntV.cells.size = 14 := rfl; rw [h14] at hj; omega)).1) (fun j hj => (HO5.out.cells_ _ (by have h14 : noEntV.cells.size = 14 := rfl; rw [h14] at hj; omega)).2)
      obtain ⟨w6, hw6⟩ : ∃ w6, w6 = w5.setCells g (i * 14) (Builtin.zeroCells noEntV.cells 1).toList := ⟨_, rfl⟩
      rw [← hw6] at hcl2
      have HFIN := Lib.hid (show Own w6 B entT 14 Ent.cells (l.take i ++ l.drop (i + 1)) (some ⟨g, 0, none⟩) (i + 1) by
        rw [hw6]
        exact HO5.out.behind ent_len (by rw [HNL.out]; exact Nat.le_refl _) _ (by rw [hlen]; omega))
      have HBF := Lib.hid (show Below B w w6 by rw [hw6]; exact below_cells hbg _ _ _ ((by repeat' (first | (with_reducible exact Below.refl _ _) | (with_reducible (refine Below.setCell ?_ ?_ _)) | (with_reducible (refine Below.alloc ?_ ?_ _)) | (with_reducible (refine Below.drew ?_)) | (with_reducible (refine below_via ?_ HB5.out ?_)) | (with_reducible (refine below_via ?_ HBq.out ?_)) | omega | (simp; done) | (simp; omega)))))
      have HKF := Lib.hid (show ∀ b, b < w.heap.size → b ≠ g → w6.heap[b]? = w.heap[b]? from fun b hb hne => by
        rw [hw6, heap_cells hne]
        exact (HK5.out b (by omega) hne).trans (HBq.out.block b hb))
      clear hw6 hlen
      go_wp2_with (simp only [hcl2])
      go_ret
      exact ⟨rfl, HFIN.out, HBF.out, HKF.out⟩
  · have hci' : ¬ c = i + 1 := hci
    clear hw1 hne
    have hc0 : (i : Int) ≤ c := by omega
    have hc1 : (i : Int) + 1 ≤ (L : Int) + 1 := by omega
    have hc2 : (0 : Int) ≤ (i : Int) + 1 := by omega
    have hc3 : ((i : Int) + 1).toNat = i + 1 := by omega
    refine wp_region_class_tail 6 (fun w' => Below (w.heap.size) (w) w') (by kernel_rfl) (by kernel_rfl) (by kernel_rfl) (Below.refl _ _).drew ?_
    repeat (first
      | (refine wpLex_pass (by rfl) passes_plain ?_; (conv => arg 9; simp only [put_lit, put_lit_none, List.set]))
      | (refine wpLex_plain (by rfl) ?_
         apply Exists.intro
         refine ⟨?_, ?_⟩
         · intro w' hb
           have hsz := hb.size
           try simp at hsz
           have hcw := fun b o (h : b < w.heap.size) => hb.cell (p := ⟨b, o, none⟩) h
           have hfw := fun b o (h : b < w.heap.size) => hb.frozen (p := ⟨b, o, none⟩) h
           go_simp
           first
             | exact ⟨rfl, hb⟩
             | exact rfl
         conv => arg 9; simp only [put_lit, put_lit_none, List.set]))
    refine wpLex_nil ?_
    intro wq hbq
    have hsq := hbq.size
    try simp at hsq
    have hcq := fun b o (h : b < w.heap.size) => hbq.cell (p := ⟨b, o, none⟩) h
    have hfq := fun b o (h : b < w.heap.size) => hbq.frozen (p := ⟨b, o, none⟩) h
    have HBq := Lib.hid hbq
    clear hbq
    simp only [List.drop]
    have HOQ := Lib.hid (HO.out.below HBq.out (Nat.le_refl _))
    refine wpList_append_own_spare _ rfl (.tmp 22) (.tmp 25) _ rfl B entT i0 14 Try.underlying24 HI0.out HZ1.out g i c ((l.take i).flatMap Ent.cells) rfl (HCT.out _ HOQ.out) ⟨g, (i + 1) * 14, none⟩ _ _ ((l.drop (i + 1)).flatMap Ent.cells) rfl (by rw [HNW.out]) (fun j u hj => ?_) HN1.out (by omega) ?_
    · have e1 : (⟨g, (i + 1) * 14, none⟩ : Addr).add j = ⟨g, (i + 1) * 14 + j, none⟩ := by
        unfold Addr.add
        by_cases z : j = 0 <;> simp [z]
      rw [e1]
      exact HNC.out _ HOQ.out j u hj
    · intro w5 hown5 hg5
      have hsum : i + (L + 1 - (i + 1)) = L := by omega
      rw [← List.flatMap_append] at hown5
      try rw [hsum] at hown5 ⊢
      try rw [show i + (L - i) = L by omega] at hown5 ⊢
      have HO5 := Lib.hid (show Own w5 B entT 14 Ent.cells (l.take i ++ l.drop (i + 1)) (some ⟨g, 0, none⟩) c by unfold Own; rw [HNL.out]; exact hown5)
      have HB5 := Lib.hid (show Below B wq w5 from (Below.refl _ _).grown hg5 (by omega) (fun k hk => by injection hk with hk; omega))
      have HK5 := Lib.hid (show ∀ b, b < wq.heap.size → b ≠ g → w5.heap[b]? = wq.heap[b]? from fun b hb hne => hg5.block b hb (fun e => hne (by injection e)))
      have hs5 := hg5.size
      clear hown5 hg5 hsum hci hci'
      have hlen : (Builtin.zeroCells noEntV.cells 1).toList.length = 14 := by simp [Builtin.zeroCells, noEntV, Value.cells]
      have hcl2 : ∀ ty, (Builtin.clear_ #[24] ty #[.slice (some ⟨g, L * 14, none⟩) 1 (c - L)]).run Try.prog w5 = .ok (.tuple #[]) (w5.setCells g (L * 14) (Builtin.zeroCells noEntV.cells 1).toList) :=
        fun ty => run_clear_many w5 _ _ ty noEntV Try.underlying24 zero_ent g (L * 14) 1 _ (by omega) (zero_ones _)
          (fun j hj => (HO5.out.cells_ _ (by have h14 : noEntV.cells.size = 14 := rfl; rw [h14] at hj; omega)).1) (fun j hj => (HO5.out.cells_ _ (by have h14 : noEntV.cells.size = 14 := rfl; rw [h14] at hj; omega)).2)
      obtain ⟨w6, hw6⟩ : ∃ w6, w6 = w5.setCells g (L * 14) (Builtin.zeroCells noEntV.cells 1).toList := ⟨_, rfl⟩
      rw [← hw6] at hcl2
      have HFIN := Lib.hid (show Own w6 B entT 14 Ent.cells (l.take i ++ l.drop (i + 1)) (some ⟨g, 0, none⟩) c by
        rw [hw6]
        exact HO5.out.behind ent_len (by rw [HNL.out]; exact Nat.le_refl _) _ (by rw [hlen]; omega))
      have HBF := Lib.hid (show Below B w w6 by rw [hw6]; exact below_cells hbg _ _ _ ((by repeat' (first | (with_reducible exact Below.refl _ _) | (with_reducible (refine Below.setCell ?_ ?_ _)) | (with_reducible (refine Below.alloc ?_ ?_ _)) | (with_reducible (refine Below.drew ?_)) | (with_reducible (refine below_via ?_ HB5.out ?_)) | (with_reducible (refine below_via ?_ HBq.out ?_)) | omega | (simp; done) | (simp; omega)))))
      have HKF := Lib.hid (show ∀ b, b < w.heap.size → b ≠ g → w6.heap[b]? = w.heap[b]? from fun b hb hne => by
        rw [hw6, heap_cells hne]
        exact (HK5.out b (by omega) hne).trans (HBq.out.block b hb))
      clear hw6 hlen
      go_wp2_with (simp only [hcl2])
      go_ret
      exact ⟨rfl, HFIN.out, HBF.out, HKF.out⟩

end Go.Proofs.Ytbaninglcafhhaa
