/-
  The library's search of an entry, and the page's. Conditions: the lengths fit.
-/
import Derived.Test.YtbaninglcafhhaaFind
namespace Go.Proofs.Ytbaninglcafhhaa
open Go.RowKit

set_option maxRecDepth 100000 in
set_option maxHeartbeats 4000000 in
theorem Index_ent (v : Ent) (L : Option Addr) (cl : Nat) (l : List Ent) (w : World) (hl : l.length ≤ 140737488355328) (hL : At w L 14 Ent.cells l) :
    Calls Try.prog 93 #[.slice L l.length cl, .agg v.cells.toArray] w fun e w' => e = .returned (.int .i64 (idx (fun y => entEq v y) l)) ∧ Below w.heap.size w w' := by
  have HL := Lib.hid hL
  clear hL
  obtain ⟨p, hp⟩ : ∃ p : Ent → Bool, p = (fun y => entEq v y) := ⟨_, rfl⟩
  have HPE := Lib.hid hp
  rw [← hp]
  clear hp
  obtain ⟨a0, a1, a2, a3, a4, a5, a6, a7, a8, a9, a10, a11, a12, a13⟩ := v
  dsimp only [Ent.cells]
  go_enter Try.func93, Try.ntmps93
  go_wp2
  go_loopw [8] (fun i wr => ∃ k : Nat, k ≤ l.length ∧ i = .int .i64 k ∧ (l.take k).any p = false ∧ Below w.heap.size w wr ∧ wr.heap[w.heap.size]? = some (.cells #[.int .i64 a0, .int .i64 a1, .int .i64 a2, .bool a3, .int .i64 a4, .int .i64 a5, .int .i64 a6, .int .i64 a7, .bool a8, .bool a9, .bool a10, .bool a11, .bool a12, .int .i64 a13] entT (0, 0))) (fun i _ => l.length - (intOf i).toNat)
  case atStart => exact ⟨0, Nat.zero_le _, rfl, rfl, (by repeat' (first | (with_reducible exact Below.refl _ _) | (with_reducible (refine Below.setCell ?_ ?_ _)) | (with_reducible (refine Below.alloc ?_ ?_ _)) | (with_reducible (refine Below.drew ?_)) | omega | (simp; done) | (simp; omega))), heap_new _ _⟩
  case round =>
    obtain ⟨k, hk, rfl, ht, hbw, hx⟩ := hrel
    have HT := Lib.hid ht
    clear ht
    have HBW := Lib.hid hbw
    have HX := Lib.hid hx
    have hsw := heap_lt hx
    clear hbw hx
    by_cases hlt : k < l.length
    · obtain ⟨b, off, rfl, hbl, hc⟩ := at_cells HL.out HBW.out hlt
      have hbr : b < wr.heap.size := by omega
      obtain ⟨x, hxk⟩ : ∃ x, l[k] = x := ⟨_, rfl⟩
      rw [hxk] at hc
      have HXK := Lib.hid hxk
      clear hxk
      obtain ⟨pv, hpv⟩ : ∃ pv, p x = pv := ⟨_, rfl⟩
      have HPV := Lib.hid hpv
      obtain ⟨b0, b1, b2, b3, b4, b5, b6, b7, b8, b9, b10, b11, b12, b13⟩ := x
      have he := fun W => run_eql_ent a0 a1 a2 a3 a4 a5 a6 a7 a8 a9 a10 a11 a12 a13 b0 b1 b2 b3 b4 b5 b6 b7 b8 b9 b10 b11 b12 b13 W
      rw [HPE.out] at hpv
      dsimp only at hpv
      rw [hpv] at he
      clear hpv
      have c0 := hc 0 _ rfl
      have c1 := hc 1 _ rfl
      have c2 := hc 2 _ rfl
      have c3 := hc 3 _ rfl
      have c4 := hc 4 _ rfl
      have c5 := hc 5 _ rfl
      have c6 := hc 6 _ rfl
      have c7 := hc 7 _ rfl
      have c8 := hc 8 _ rfl
      have c9 := hc 9 _ rfl
      have c10 := hc 10 _ rfl
      have c11 := hc 11 _ rfl
      have c12 := hc 12 _ rfl
      have c13 := hc 13 _ rfl
      clear hc
      simp only [Nat.add_zero] at c0
      have cx := fun j => cell_of_row _ _ j _ _ _ HX.out
      have hki : (k : Int) < l.length := by omega
      cases pv
      · go_wp2_with fail
        refine wp_region_class (fun w' => Below (wr.heap.size) (wr) w') (by kernel_rfl) (by kernel_rfl) (Below.refl _ _).drew ?_
        repeat (first
          | (refine wpLex_pass (by rfl) passes_plain ?_; (conv => arg 9; simp only [put_lit, put_lit_none, List.set]))
          | (refine wpLex_plain (by rfl) ?_
             apply Exists.intro
             refine ⟨?_, ?_⟩
             · intro w' hb
               have hsz := hb.size
               try simp at hsz
               have hcw := fun b o (h : b < wr.heap.size) => hb.cell (p := ⟨b, o, none⟩) h
               have hfw := fun b o (h : b < wr.heap.size) => hb.frozen (p := ⟨b, o, none⟩) h
               go_simp
               first
                 | exact ⟨rfl, hb⟩
                 | exact rfl
             conv => arg 9; simp only [put_lit, put_lit_none, List.set]))
        refine wpLex_nil ?_
        intro wq hbq
        have hsq := hbq.size
        try simp at hsq
        have hcq := fun b o (h : b < wr.heap.size) => hbq.cell (p := ⟨b, o, none⟩) h
        have hfq := fun b o (h : b < wr.heap.size) => hbq.frozen (p := ⟨b, o, none⟩) h
        have HBq := Lib.hid hbq
        clear hbq
        clear c0 c1 c2 c3 c4 c5 c6 c7 c8 c9 c10 c11 c12 c13 cx hcq hfq
        go_wp2
        go_roundw
        case rel => exact ⟨k + 1, by omega, by go_num, any_take_step HT.out hlt (by rw [HXK.out]; exact HPV.out), (by repeat' (first | (with_reducible exact Below.refl _ _) | (with_reducible (refine Below.setCell ?_ ?_ _)) | (with_reducible (refine Below.alloc ?_ ?_ _)) | (with_reducible (refine Below.drew ?_)) | (with_reducible (refine below_via ?_ HBq.out ?_)) | (with_reducible (refine below_via ?_ HBW.out ?_)) | omega | (simp; done) | (simp; omega))), heap_below_is HBq.out hsw HX.out⟩
        case measure => simp [intOf]; omega
      · go_wp2_with fail
        refine wp_region_class (fun w' => Below (wr.heap.size) (wr) w') (by kernel_rfl) (by kernel_rfl) (Below.refl _ _).drew ?_
        repeat (first
          | (refine wpLex_pass (by rfl) passes_plain ?_; (conv => arg 9; simp only [put_lit, put_lit_none, List.set]))
          | (refine wpLex_plain (by rfl) ?_
             apply Exists.intro
             refine ⟨?_, ?_⟩
             · intro w' hb
               have hsz := hb.size
               try simp at hsz
               have hcw := fun b o (h : b < wr.heap.size) => hb.cell (p := ⟨b, o, none⟩) h
               have hfw := fun b o (h : b < wr.heap.size) => hb.frozen (p := ⟨b, o, none⟩) h
               go_simp
               first
                 | exact ⟨rfl, hb⟩
                 | exact rfl
             conv => arg 9; simp only [put_lit, put_lit_none, List.set]))
        refine wpLex_nil ?_
        intro wq hbq
        have hsq := hbq.size
        try simp at hsq
        have hcq := fun b o (h : b < wr.heap.size) => hbq.cell (p := ⟨b, o, none⟩) h
        have hfq := fun b o (h : b < wr.heap.size) => hbq.frozen (p := ⟨b, o, none⟩) h
        have HBq := Lib.hid hbq
        clear hbq
        clear c0 c1 c2 c3 c4 c5 c6 c7 c8 c9 c10 c11 c12 c13 cx hcq hfq
        go_wp2
        go_ret
        exact ⟨by rw [idx_yes HT.out hlt (by rw [HXK.out]; exact HPV.out)]; rfl, (by repeat' (first | (with_reducible exact Below.refl _ _) | (with_reducible (refine Below.setCell ?_ ?_ _)) | (with_reducible (refine Below.alloc ?_ ?_ _)) | (with_reducible (refine Below.drew ?_)) | (with_reducible (refine below_via ?_ HBq.out ?_)) | (with_reducible (refine below_via ?_ HBW.out ?_)) | omega | (simp; done) | (simp; omega)))⟩
    · go_wp2
      go_ret
      exact ⟨by rw [idx_no HT.out (by omega)]; rfl, HBW.out⟩

theorem Contains_ent (v : Ent) (L : Option Addr) (cl : Nat) (l : List Ent) (w : World) (hl : l.length ≤ 140737488355328) (hL : At w L 14 Ent.cells l) :
    Calls Try.prog 70 #[.slice L l.length cl, .agg v.cells.toArray] w fun e w' => e = .returned (.bool (l.any (fun y => entEq v y))) ∧ Below w.heap.size w w' := by
  have HI := Lib.hid (fun W (hb : Below w.heap.size w W) => Index_ent v L cl l W hl (hL.below hb))
  have HG := Lib.hid (idx_ge (fun y => entEq v y) l)
  clear hL
  obtain ⟨a0, a1, a2, a3, a4, a5, a6, a7, a8, a9, a10, a11, a12, a13⟩ := v
  dsimp only [Ent.cells] at *
  go_enter Try.func70, Try.ntmps70
  go_wp2_with fail
  refine Calls.mono (HI.out _ (by repeat' (first | (with_reducible exact Below.refl _ _) | (with_reducible (refine Below.setCell ?_ ?_ _)) | (with_reducible (refine Below.alloc ?_ ?_ _)) | (with_reducible (refine Below.drew ?_)) | omega | (simp; done) | (simp; omega)))) ?_
  rintro e w1 ⟨rfl, hb1⟩
  have hs1 := hb1.size
  try simp at hs1
  have HB1 := Lib.hid hb1
  clear hb1
  generalize idx _ l = ix at *
  go_wp2
  go_ret
  exact ⟨by rw [← HG.out]; rfl, (by repeat' (first | (with_reducible exact Below.refl _ _) | (with_reducible (refine Below.setCell ?_ ?_ _)) | (with_reducible (refine Below.alloc ?_ ?_ _)) | (with_reducible (refine Below.drew ?_)) | (with_reducible (refine below_via ?_ HB1.out ?_)) | omega | (simp; done) | (simp; omega)))⟩

set_option maxRecDepth 100000 in
set_option maxHeartbeats 4000000 in
theorem In_ent (v : Ent) (L : Option Addr) (cl : Nat) (l : List Ent) (w : World) (hl : l.length ≤ 140737488355328) (hL : At w L 14 Ent.cells l) :
    Calls Try.prog 29 #[.slice L l.length cl, .agg v.cells.toArray] w fun e w' => e = .returned (.int .i64 (idx (fun y => entEq y v) l)) ∧ Below w.heap.size w w' := by
  have HL := Lib.hid hL
  clear hL
  obtain ⟨p, hp⟩ : ∃ p : Ent → Bool, p = (fun y => entEq y v) := ⟨_, rfl⟩
  have HPE := Lib.hid hp
  rw [← hp]
  clear hp
  obtain ⟨a0, a1, a2, a3, a4, a5, a6, a7, a8, a9, a10, a11, a12, a13⟩ := v
  dsimp only [Ent.cells]
  go_enter Try.func29, Try.ntmps29
  go_wp2
  go_loopw [5] (fun i wr => ∃ k : Nat, k ≤ l.length ∧ i = .int .i64 k ∧ (l.take k).any p = false ∧ Below w.heap.size w wr ∧ wr.heap[w.heap.size]? = some (.cells #[.int .i64 a0, .int .i64 a1, .int .i64 a2, .bool a3, .int .i64 a4, .int .i64 a5, .int .i64 a6, .int .i64 a7, .bool a8, .bool a9, .bool a10, .bool a11, .bool a12, .int .i64 a13] entT (0, 0))) (fun i _ => l.length - (intOf i).toNat)
  case atStart => exact ⟨0, Nat.zero_le _, rfl, rfl, (by repeat' (first | (with_reducible exact Below.refl _ _) | (with_reducible (refine Below.setCell ?_ ?_ _)) | (with_reducible (refine Below.alloc ?_ ?_ _)) | (with_reducible (refine Below.drew ?_)) | omega | (simp; done) | (simp; omega))), heap_new _ _⟩
  case round =>
    obtain ⟨k, hk, rfl, ht, hbw, hx⟩ := hrel
    have HT := Lib.hid ht
    clear ht
    have HBW := Lib.hid hbw
    have HX := Lib.hid hx
    have hsw := heap_lt hx
    clear hbw hx
    by_cases hlt : k < l.length
    · obtain ⟨b, off, rfl, hbl, hc⟩ := at_cells HL.out HBW.out hlt
      have hbr : b < wr.heap.size := by omega
      obtain ⟨x, hxk⟩ : ∃ x, l[k] = x := ⟨_, rfl⟩
      rw [hxk] at hc
      have HXK := Lib.hid hxk
      clear hxk
      obtain ⟨pv, hpv⟩ : ∃ pv, p x = pv := ⟨_, rfl⟩
      have HPV := Lib.hid hpv
      obtain ⟨b0, b1, b2, b3, b4, b5, b6, b7, b8, b9, b10, b11, b12, b13⟩ := x
      have he := fun W => run_eql_ent b0 b1 b2 b3 b4 b5 b6 b7 b8 b9 b10 b11 b12 b13 a0 a1 a2 a3 a4 a5 a6 a7 a8 a9 a10 a11 a12 a13 W
      rw [HPE.out] at hpv
      dsimp only at hpv
      rw [hpv] at he
      clear hpv
      have c0 := hc 0 _ rfl
      have c1 := hc 1 _ rfl
      have c2 := hc 2 _ rfl
      have c3 := hc 3 _ rfl
      have c4 := hc 4 _ rfl
      have c5 := hc 5 _ rfl
      have c6 := hc 6 _ rfl
      have c7 := hc 7 _ rfl
      have c8 := hc 8 _ rfl
      have c9 := hc 9 _ rfl
      have c10 := hc 10 _ rfl
      have c11 := hc 11 _ rfl
      have c12 := hc 12 _ rfl
      have c13 := hc 13 _ rfl
      clear hc
      simp only [Nat.add_zero] at c0
      have cx := fun j => cell_of_row _ _ j _ _ _ HX.out
      have hki : (k : Int) < l.length := by omega
      cases pv
      · go_wp2_with fail
        refine wp_region_class (fun w' => Below (wr.heap.size) (wr) w') (by kernel_rfl) (by kernel_rfl) (Below.refl _ _).drew ?_
        repeat (first
          | (refine wpLex_pass (by rfl) passes_plain ?_; (conv => arg 9; simp only [put_lit, put_lit_none, List.set]))
          | (refine wpLex_plain (by rfl) ?_
             apply Exists.intro
             refine ⟨?_, ?_⟩
             · intro w' hb
               have hsz := hb.size
               try simp at hsz
               have hcw := fun b o (h : b < wr.heap.size) => hb.cell (p := ⟨b, o, none⟩) h
               have hfw := fun b o (h : b < wr.heap.size) => hb.frozen (p := ⟨b, o, none⟩) h
               go_simp
               first
                 | exact ⟨rfl, hb⟩
                 | exact rfl
             conv => arg 9; simp only [put_lit, put_lit_none, List.set]))
        refine wpLex_nil ?_
        intro wq hbq
        have hsq := hbq.size
        try simp at hsq
        have hcq := fun b o (h : b < wr.heap.size) => hbq.cell (p := ⟨b, o, none⟩) h
        have hfq := fun b o (h : b < wr.heap.size) => hbq.frozen (p := ⟨b, o, none⟩) h
        have HBq := Lib.hid hbq
        clear hbq
        clear c0 c1 c2 c3 c4 c5 c6 c7 c8 c9 c10 c11 c12 c13 cx hcq hfq
        go_wp2
        go_roundw
        case rel => exact ⟨k + 1, by omega, by go_num, any_take_step HT.out hlt (by rw [HXK.out]; exact HPV.out), (by repeat' (first | (with_reducible exact Below.refl _ _) | (with_reducible (refine Below.setCell ?_ ?_ _)) | (with_reducible (refine Below.alloc ?_ ?_ _)) | (with_reducible (refine Below.drew ?_)) | (with_reducible (refine below_via ?_ HBq.out ?_)) | (with_reducible (refine below_via ?_ HBW.out ?_)) | omega | (simp; done) | (simp; omega))), heap_below_is HBq.out hsw HX.out⟩
        case measure => simp [intOf]; omega
      · go_wp2_with fail
        refine wp_region_class (fun w' => Below (wr.heap.size) (wr) w') (by kernel_rfl) (by kernel_rfl) (Below.refl _ _).drew ?_
        repeat (first
          | (refine wpLex_pass (by rfl) passes_plain ?_; (conv => arg 9; simp only [put_lit, put_lit_none, List.set]))
          | (refine wpLex_plain (by rfl) ?_
             apply Exists.intro
             refine ⟨?_, ?_⟩
             · intro w' hb
               have hsz := hb.size
               try simp at hsz
               have hcw := fun b o (h : b < wr.heap.size) => hb.cell (p := ⟨b, o, none⟩) h
               have hfw := fun b o (h : b < wr.heap.size) => hb.frozen (p := ⟨b, o, none⟩) h
               go_simp
               first
                 | exact ⟨rfl, hb⟩
                 | exact rfl
             conv => arg 9; simp only [put_lit, put_lit_none, List.set]))
        refine wpLex_nil ?_
        intro wq hbq
        have hsq := hbq.size
        try simp at hsq
        have hcq := fun b o (h : b < wr.heap.size) => hbq.cell (p := ⟨b, o, none⟩) h
        have hfq := fun b o (h : b < wr.heap.size) => hbq.frozen (p := ⟨b, o, none⟩) h
        have HBq := Lib.hid hbq
        clear hbq
        clear c0 c1 c2 c3 c4 c5 c6 c7 c8 c9 c10 c11 c12 c13 cx hcq hfq
        go_wp2
        go_ret
        exact ⟨by rw [idx_yes HT.out hlt (by rw [HXK.out]; exact HPV.out)]; rfl, (by repeat' (first | (with_reducible exact Below.refl _ _) | (with_reducible (refine Below.setCell ?_ ?_ _)) | (with_reducible (refine Below.alloc ?_ ?_ _)) | (with_reducible (refine Below.drew ?_)) | (with_reducible (refine below_via ?_ HBq.out ?_)) | (with_reducible (refine below_via ?_ HBW.out ?_)) | omega | (simp; done) | (simp; omega)))⟩
    · go_wp2
      go_ret
      exact ⟨by rw [idx_no HT.out (by omega)]; rfl, HBW.out⟩

end Go.Proofs.Ytbaninglcafhhaa
