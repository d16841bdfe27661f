/-
  Whether what is remembered may be: the page's answer. Conditions: the lengths fit.
-/
import Derived.Test.YtbaninglcafhhaaChkA
import Derived.Test.YtbaninglcafhhaaEntD
namespace Go.Proofs.Ytbaninglcafhhaa
open Go.RowKit

theorem in_at {es : List Ent} {k : Nat} (hk : k < es.length) {e : Ent} (he : es[k] = e) : (idx (fun y => entEq y e) es != (k : Int)) = (es.take k).any (entEq e) := by
  have h1 : (es.take k).any (entEq e) = (es.take k).any (fun y => entEq y e) := by
    congr 1; funext y; exact entEq_comm e y
  rw [h1]
  cases hg : (es.take k).any (fun y => entEq y e)
  · rw [idx_yes hg hk (by rw [he]; exact entEq_refl e)]
    simp
  · rcases idx_cases (fun y => entEq y e) es with ⟨h2, _⟩ | ⟨j, hj, h2, h3, h4⟩
    · rw [h2]; first | (simp; done) | (simp; omega)
    · rw [h2]
      rcases Nat.lt_or_ge j k with h5 | h5
      · first | (simp; done) | (simp; omega)
      · exfalso
        have h6 : (es.take k).any (fun y => entEq y e) = false := by
          rw [List.any_eq_false] at h4 ⊢
          intro x hx
          refine h4 x ?_
          rw [List.mem_take_iff_getElem] at hx ⊢
          obtain ⟨i, hi, hx⟩ := hx
          exact ⟨i, by omega, hx⟩
        rw [h6] at hg; cases hg

theorem due_step {ds : List Inv} {m : Nat} (h : (ds.take m).all dueOk = true) (hm : m < ds.length) {i : Inv} (hi : ds[m] = i) (hd : dueOk i = true) : (ds.take (m + 1)).all dueOk = true := by
  rw [take_snoc_get ds m hm, List.all_append, h, hi]; simp [hd]
theorem due_bad (es : List Ent) {ds : List Inv} {m : Nat} (hm : m < ds.length) {i : Inv} (hi : ds[m] = i) (hd : dueOk i = false) : tlbOk es ds = false := by
  rw [tlbOk_eq]
  have : ds.all dueOk = false := by rw [List.all_eq_false]; exact ⟨i, by rw [← hi]; exact List.getElem_mem _, by rw [hd]; decide⟩
  rw [this, Bool.and_false, Bool.and_false]

set_option maxRecDepth 100000 in
set_option maxHeartbeats 8000000 in
theorem rTLB_any (t : Tl) (w : World) (h : TlAt w t) :
    Calls Try.prog 37 #[.agg t.cells.toArray] w fun e w' => e = .returned (.bool (tlbOk t.es t.ds)) ∧ Below w.heap.size w w' := by
  obtain ⟨hel, hec, hea, hdl, hdc, hda⟩ := h
  obtain ⟨ea, ec, es, da, dc, ds⟩ := t
  dsimp only [Tl.cells] at *
  have HE := Lib.hid hea
  have HD := Lib.hid hda
  clear hea hda
  go_enter Try.func37, Try.ntmps37
  go_wp2_with fail
  go_loopw [3] (fun i wr => ∃ k : Nat, k ≤ es.length ∧ i = .int .i64 k ∧ (∀ j, j < k → entGood es j = true) ∧ Below w.heap.size w wr ∧ wr.heap[w.heap.size]? = some (.cells #[.slice ea es.length ec, .slice da ds.length dc] tlbT (0, 0))) (fun i _ => es.length - (intOf i).toNat)
  case atStart => exact ⟨0, Nat.zero_le _, rfl, fun j hj => by omega, (by repeat' (first | (with_reducible exact Below.refl _ _) | (with_reducible (refine Below.setCell ?_ ?_ _)) | (with_reducible (refine Below.alloc ?_ ?_ _)) | (with_reducible (refine Below.drew ?_)) | omega | (simp; done) | (simp; omega))), heap_new _ _⟩
  case round =>
    obtain ⟨k, hk, rfl, hg, hbw, hx⟩ := hrel
    have HG := Lib.hid hg
    have HBW := Lib.hid hbw
    have HX := Lib.hid hx
    have hsw := heap_lt hx
    clear hg hbw hx
    have cx := fun j => cell_of_row _ _ j _ _ _ HX.out
    have cf := fun j => frozen_of_row _ _ j _ _ HX.out
    by_cases hlt : k < es.length
    · have HIN0 := Lib.hid (fun (x : Ent) W (hb : Below w.heap.size w W) => In_ent x ea ec es W hel (HE.out.below hb))
      obtain ⟨b, off, rfl, hbl, hc⟩ := at_cells HE.out HBW.out hlt
      have hbr : b < wr.heap.size := by omega
      obtain ⟨x, hxk⟩ : ∃ x, es[k] = x := ⟨_, rfl⟩
      rw [hxk] at hc
      have HGK := Lib.hid (entGood_at hlt hxk)
      have HIA := Lib.hid (in_at hlt hxk)
      clear hxk
      have HM := Lib.hid (fun W => rent_any x W)
      have HIN := Lib.hid (fun W (hb : Below w.heap.size w W) => HIN0.out x W hb)
      clear HIN0
      generalize entOk x = g1 at *
      generalize (es.take k).any (entEq x) = g2 at *
      generalize idx (fun y => entEq y x) es = ix at *
      have hia := HIA.out
      obtain ⟨a0, a1, a2, a3, a4, a5, a6, a7, a8, a9, a10, a11, a12, a13⟩ := x
      dsimp only [Ent.cells] at hc HM HIN
      have c0 := hc 0 _ rfl
      have c1 := hc 1 _ rfl
      have c2 := hc 2 _ rfl
      have c3 := hc 3 _ rfl
      have c4 := hc 4 _ rfl
      have c5 := hc 5 _ rfl
      have c6 := hc 6 _ rfl
      have c7 := hc 7 _ rfl
      have c8 := hc 8 _ rfl
      have c9 := hc 9 _ rfl
      have c10 := hc 10 _ rfl
      have c11 := hc 11 _ rfl
      have c12 := hc 12 _ rfl
      have c13 := hc 13 _ rfl
      clear hc
      simp only [Nat.add_zero] at c0
      have hki : (k : Int) < es.length := by omega
      cases g1
      · go_wp2_with fail
        refine wp_region_class (fun w' => Below (wr.heap.size) (wr) w') (by kernel_rfl) (by kernel_rfl) (Below.refl _ _).drew ?_
        repeat (first
          | (refine wpLex_pass (by rfl) passes_plain ?_; (conv => arg 9; simp only [put_lit, put_lit_none, List.set]))
          | (refine wpLex_plain (by rfl) ?_
             apply Exists.intro
             refine ⟨?_, ?_⟩
             · intro w' hb
               have hsz := hb.size
               try simp at hsz
               have hcw := fun b o (h : b < wr.heap.size) => hb.cell (p := ⟨b, o, none⟩) h
               have hfw := fun b o (h : b < wr.heap.size) => hb.frozen (p := ⟨b, o, none⟩) h
               go_simp
               first
                 | exact ⟨rfl, hb⟩
                 | exact rfl
                 | ((with_reducible refine Calls.mono (HM.out _) ?_); rintro e w2 ⟨rfl, hb2⟩; exact ⟨_, rfl, rfl, hb.trans (hb2.mono hsz)⟩)
                 | ((with_reducible refine Calls.mono (HIN.out _ (by repeat' (first | (with_reducible exact Below.refl _ _) | (with_reducible (refine Below.setCell ?_ ?_ _)) | (with_reducible (refine Below.alloc ?_ ?_ _)) | (with_reducible (refine Below.drew ?_)) | (with_reducible (refine below_via ?_ hb ?_)) | (with_reducible (refine below_via ?_ HBW.out ?_)) | omega | (simp; done) | (simp; omega)))) ?_); rintro e w2 ⟨rfl, hb2⟩; exact ⟨_, rfl, rfl, hb.trans (hb2.mono hsz)⟩)
             conv => arg 9; simp only [put_lit, put_lit_none, List.set]))
        refine wpLex_nil ?_
        intro wq hbq
        have hsq := hbq.size
        try simp at hsq
        have hcq := fun b o (h : b < wr.heap.size) => hbq.cell (p := ⟨b, o, none⟩) h
        have hfq := fun b o (h : b < wr.heap.size) => hbq.frozen (p := ⟨b, o, none⟩) h
        have HBq := Lib.hid hbq
        clear hbq
        go_wp2
        go_ret
        exact ⟨by rw [tlb_bad ds hlt (by rw [HGK.out]; rfl)]; rfl, (by repeat' (first | (with_reducible exact Below.refl _ _) | (with_reducible (refine Below.setCell ?_ ?_ _)) | (with_reducible (refine Below.alloc ?_ ?_ _)) | (with_reducible (refine Below.drew ?_)) | (with_reducible (refine below_via ?_ HBq.out ?_)) | (with_reducible (refine below_via ?_ HBW.out ?_)) | omega | (simp; done) | (simp; omega)))⟩
      · cases g2
        · go_wp2_with fail
          refine wp_region_class (fun w' => Below (wr.heap.size) (wr) w') (by kernel_rfl) (by kernel_rfl) (Below.refl _ _).drew ?_
          repeat (first
            | (refine wpLex_pass (by rfl) passes_plain ?_; (conv => arg 9; simp only [put_lit, put_lit_none, List.set]))
            | (refine wpLex_plain (by rfl) ?_
               apply Exists.intro
               refine ⟨?_, ?_⟩
               · intro w' hb
                 have hsz := hb.size
                 try simp at hsz
                 have hcw := fun b o (h : b < wr.heap.size) => hb.cell (p := ⟨b, o, none⟩) h
                 have hfw := fun b o (h : b < wr.heap.size) => hb.frozen (p := ⟨b, o, none⟩) h
                 go_simp
                 first
                   | exact ⟨rfl, hb⟩
                   | exact rfl
                   | ((with_reducible refine Calls.mono (HM.out _) ?_); rintro e w2 ⟨rfl, hb2⟩; exact ⟨_, rfl, rfl, hb.trans (hb2.mono hsz)⟩)
                   | ((with_reducible refine Calls.mono (HIN.out _ (by repeat' (first | (with_reducible exact Below.refl _ _) | (with_reducible (refine Below.setCell ?_ ?_ _)) | (with_reducible (refine Below.alloc ?_ ?_ _)) | (with_reducible (refine Below.drew ?_)) | (with_reducible (refine below_via ?_ hb ?_)) | (with_reducible (refine below_via ?_ HBW.out ?_)) | omega | (simp; done) | (simp; omega)))) ?_); rintro e w2 ⟨rfl, hb2⟩; exact ⟨_, rfl, rfl, hb.trans (hb2.mono hsz)⟩)
               conv => arg 9; simp only [put_lit, put_lit_none, List.set]))
          refine wpLex_nil ?_
          intro wq hbq
          have hsq := hbq.size
          try simp at hsq
          have hcq := fun b o (h : b < wr.heap.size) => hbq.cell (p := ⟨b, o, none⟩) h
          have hfq := fun b o (h : b < wr.heap.size) => hbq.frozen (p := ⟨b, o, none⟩) h
          have HBq := Lib.hid hbq
          clear hbq
          clear c0 c1 c2 c3 c4 c5 c6 c7 c8 c9 c10 c11 c12 c13 cx hcq hfq
          go_wp2
          go_roundw
          case rel => exact ⟨k + 1, by omega, by go_num, good_step HG.out (by rw [HGK.out]; rfl), (by repeat' (first | (with_reducible exact Below.refl _ _) | (with_reducible (refine Below.setCell ?_ ?_ _)) | (with_reducible (refine Below.alloc ?_ ?_ _)) | (with_reducible (refine Below.drew ?_)) | (with_reducible (refine below_via ?_ HBq.out ?_)) | (with_reducible (refine below_via ?_ HBW.out ?_)) | omega | (simp; done) | (simp; omega))), (by repeat (first | (with_reducible assumption) | (with_reducible exact HX.out) | (with_reducible refine heap_below_is HBq.out (by (first | omega | (simp; done) | (simp; omega))) ?_) | (exact heap_at _ _ (by simp; done)) | (with_reducible refine heap_old_is _ _ (by (first | omega | (simp; done) | (simp; omega))) ?_) | (with_reducible refine heap_far_is (by (first | omega | (simp; done) | (simp; omega))) ?_)))⟩
          case measure => simp [intOf]; omega
        · go_wp2_with fail
          refine wp_region_class (fun w' => Below (wr.heap.size) (wr) w') (by kernel_rfl) (by kernel_rfl) (Below.refl _ _).drew ?_
          repeat (first
            | (refine wpLex_pass (by rfl) passes_plain ?_; (conv => arg 9; simp only [put_lit, put_lit_none, List.set]))
            | (refine wpLex_plain (by rfl) ?_
               apply Exists.intro
               refine ⟨?_, ?_⟩
               · intro w' hb
                 have hsz := hb.size
                 try simp at hsz
                 have hcw := fun b o (h : b < wr.heap.size) => hb.cell (p := ⟨b, o, none⟩) h
                 have hfw := fun b o (h : b < wr.heap.size) => hb.frozen (p := ⟨b, o, none⟩) h
                 go_simp
                 first
                   | exact ⟨rfl, hb⟩
                   | exact rfl
                   | ((with_reducible refine Calls.mono (HM.out _) ?_); rintro e w2 ⟨rfl, hb2⟩; exact ⟨_, rfl, rfl, hb.trans (hb2.mono hsz)⟩)
                   | ((with_reducible refine Calls.mono (HIN.out _ (by repeat' (first | (with_reducible exact Below.refl _ _) | (with_reducible (refine Below.setCell ?_ ?_ _)) | (with_reducible (refine Below.alloc ?_ ?_ _)) | (with_reducible (refine Below.drew ?_)) | (with_reducible (refine below_via ?_ hb ?_)) | (with_reducible (refine below_via ?_ HBW.out ?_)) | omega | (simp; done) | (simp; omega)))) ?_); rintro e w2 ⟨rfl, hb2⟩; exact ⟨_, rfl, rfl, hb.trans (hb2.mono hsz)⟩)
               conv => arg 9; simp only [put_lit, put_lit_none, List.set]))
          refine wpLex_nil ?_
          intro wq hbq
          have hsq := hbq.size
          try simp at hsq
          have hcq := fun b o (h : b < wr.heap.size) => hbq.cell (p := ⟨b, o, none⟩) h
          have hfq := fun b o (h : b < wr.heap.size) => hbq.frozen (p := ⟨b, o, none⟩) h
          have HBq := Lib.hid hbq
          clear hbq
          go_wp2
          go_ret
          exact ⟨by rw [tlb_bad ds hlt (by rw [HGK.out]; rfl)]; rfl, (by repeat' (first | (with_reducible exact Below.refl _ _) | (with_reducible (refine Below.setCell ?_ ?_ _)) | (with_reducible (refine Below.alloc ?_ ?_ _)) | (with_reducible (refine Below.drew ?_)) | (with_reducible (refine below_via ?_ HBq.out ?_)) | (with_reducible (refine below_via ?_ HBW.out ?_)) | omega | (simp; done) | (simp; omega)))⟩
    · have HR := Lib.hid (tlb_all (ds := ds) (fun j hj => HG.out j (by omega)))
      go_wp2_with fail
      clear cx cf
      obtain ⟨wo, rfl⟩ : ∃ wo : World, wo = wr := ⟨_, rfl⟩
      go_loopw [4] (fun i wr => ∃ m : Nat, m ≤ ds.length ∧ i = .int .i64 m ∧ (ds.take m).all dueOk = true ∧ Below w.heap.size w wr ∧ wr.heap[w.heap.size]? = some (.cells #[.slice ea es.length ec, .slice da ds.length dc] tlbT (0, 0))) (fun i _ => ds.length - (intOf i).toNat)
      case atStart => exact ⟨0, Nat.zero_le _, rfl, rfl, HBW.out, HX.out⟩
      case round =>
        obtain ⟨m, hm, rfl, hgd, hbv, hxv⟩ := hrel
        have HGD := Lib.hid hgd
        have HBV := Lib.hid hbv
        have HXV := Lib.hid hxv
        have hsv := heap_lt hxv
        clear hgd hbv hxv
        have cx := fun j => cell_of_row _ _ j _ _ _ HXV.out
        have cf := fun j => frozen_of_row _ _ j _ _ HXV.out
        by_cases hmt : m < ds.length
        · obtain ⟨b, off, rfl, hbl, hc⟩ := at_cells HD.out HBV.out hmt
          obtain ⟨x, hxk⟩ : ∃ x, ds[m] = x := ⟨_, rfl⟩
          rw [hxk] at hc
          have HXK := Lib.hid hxk
          clear hxk
          have HM := Lib.hid (fun W => rInval_any x W)
          obtain ⟨g, hg⟩ : ∃ g, dueOk x = g := ⟨_, rfl⟩
          have HGG := Lib.hid hg
          rw [hg] at HM
          clear hg
          obtain ⟨a0, a1, a2, a3⟩ := x
          dsimp only [Inv.cells] at hc HM
          have c0 := hc 0 _ rfl
          have c1 := hc 1 _ rfl
          have c2 := hc 2 _ rfl
          have c3 := hc 3 _ rfl
          clear hc
          simp only [Nat.add_zero] at c0
          have hmi : (m : Int) < ds.length := by omega
          cases g
          · go_wp2_with fail
            refine Calls.mono (HM.out _) ?_
            rintro e w1 ⟨rfl, hb1⟩
            have hs1 := hb1.size
            try simp at hs1
            have HB1 := Lib.hid hb1
            clear hb1
            go_wp2
            go_ret
            exact ⟨by rw [due_bad es hmt HXK.out HGG.out]; rfl, (by repeat' (first | (with_reducible exact Below.refl _ _) | (with_reducible (refine Below.setCell ?_ ?_ _)) | (with_reducible (refine Below.alloc ?_ ?_ _)) | (with_reducible (refine Below.drew ?_)) | (with_reducible (refine below_via ?_ HB1.out ?_)) | (with_reducible (refine below_via ?_ HBV.out ?_)) | omega | (simp; done) | (simp; omega)))⟩
          · go_wp2_with fail
            refine Calls.mono (HM.out _) ?_
            rintro e w1 ⟨rfl, hb1⟩
            have hs1 := hb1.size
            try simp at hs1
            have HB1 := Lib.hid hb1
            clear hb1
            go_wp2
            go_roundw
            case rel => exact ⟨m + 1, by omega, by go_num, due_step HGD.out hmt HXK.out HGG.out, (by repeat' (first | (with_reducible exact Below.refl _ _) | (with_reducible (refine Below.setCell ?_ ?_ _)) | (with_reducible (refine Below.alloc ?_ ?_ _)) | (with_reducible (refine Below.drew ?_)) | (with_reducible (refine below_via ?_ HB1.out ?_)) | (with_reducible (refine below_via ?_ HBV.out ?_)) | omega | (simp; done) | (simp; omega))), (by repeat (first | (with_reducible assumption) | (with_reducible exact HXV.out) | (with_reducible refine heap_below_is HB1.out (by (first | omega | (simp; done) | (simp; omega))) ?_) | (exact heap_at _ _ (by simp; done)) | (with_reducible refine heap_old_is _ _ (by (first | omega | (simp; done) | (simp; omega))) ?_) | (with_reducible refine heap_far_is (by (first | omega | (simp; done) | (simp; omega))) ?_)))⟩
            case measure => simp [intOf]; omega
        · have HR2 := Lib.hid (show tlbOk es ds = (decide (es.length ≤ 8) && decide (ds.length ≤ 8)) by rw [HR.out, ← List.take_of_length_le (show ds.length ≤ m by omega), HGD.out, Bool.and_true])
          by_cases h8 : es.length ≤ 8
          · have q8 : decide ((es.length : Int) ≤ 8) = true := by simp; omega
            go_wp2
            go_ret
            exact ⟨ret_bool (by rw [HR2.out, Bool.eq_iff_iff]; simp; omega), HBV.out⟩
          · have q8 : decide ((es.length : Int) ≤ 8) = false := by simp; omega
            go_wp2
            go_ret
            exact ⟨ret_bool (by rw [HR2.out, Bool.eq_iff_iff]; simp; omega), HBV.out⟩

end Go.Proofs.Ytbaninglcafhhaa
