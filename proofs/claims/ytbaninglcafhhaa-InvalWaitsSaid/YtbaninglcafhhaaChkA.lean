/-
  Whether what is remembered may be: the program's answer. Conditions: the lengths fit.
-/
import Derived.Test.YtbaninglcafhhaaEntC
import Derived.Test.YtbaninglcafhhaaDueA
import Derived.Test.YtbaninglcafhhaaFindE
import Derived.Test.YtbaninglcafhhaaIndexE
namespace Go.Proofs.Ytbaninglcafhhaa
open Go.RowKit

structure Tl where
  ea : Option Addr
  ec : Nat
  es : List Ent
  da : Option Addr
  dc : Nat
  ds : List Inv
def Tl.cells (t : Tl) : List Value := [.slice t.ea t.es.length t.ec, .slice t.da t.ds.length t.dc]
theorem tl_len (t : Tl) : t.cells.length = 2 := rfl
def tlbT : TypeId := 43
structure TlAt (w : World) (t : Tl) : Prop where
  elen : t.es.length ≤ 140737488355328
  ecap : t.es.length ≤ t.ec
  eat : At w t.ea 14 Ent.cells t.es
  dlen : t.ds.length ≤ 140737488355328
  dcap : t.ds.length ≤ t.dc
  dat : At w t.da 4 Inv.cells t.ds
theorem TlAt.below {w w' : World} {t : Tl} (h : TlAt w t) (hb : Below w.heap.size w w') : TlAt w' t := ⟨h.elen, h.ecap, h.eat.below hb, h.dlen, h.dcap, h.dat.below hb⟩

def entGood (es : List Ent) (i : Nat) : Bool := match es[i]? with | some e => entOk e && !(es.take i).any (entEq e) | none => true
theorem tlbOk_eq (es : List Ent) (ds : List Inv) : tlbOk es ds = ((decide (es.length ≤ 8) && decide (ds.length ≤ 8)) && ((List.range es.length).all (entGood es) && ds.all dueOk)) := rfl
theorem entGood_at {es : List Ent} {k : Nat} (h : k < es.length) {e : Ent} (he : es[k] = e) : entGood es k = (entOk e && !(es.take k).any (entEq e)) := by
  unfold entGood; rw [List.getElem?_eq_getElem h, he]
theorem tlb_big1 {es : List Ent} (ds : List Inv) (h : 8 < es.length) : tlbOk es ds = false := by
  rw [tlbOk_eq, show decide (es.length ≤ 8) = false by simp; omega]; rfl
theorem tlb_big2 (es : List Ent) {ds : List Inv} (h : 8 < ds.length) : tlbOk es ds = false := by
  rw [tlbOk_eq, show decide (ds.length ≤ 8) = false by simp; omega, Bool.and_false]; rfl
theorem tlb_bad {es : List Ent} (ds : List Inv) {k : Nat} (h : k < es.length) (hg : entGood es k = false) : tlbOk es ds = false := by
  rw [tlbOk_eq]
  have : (List.range es.length).all (entGood es) = false := by
    rw [List.all_eq_false]
    exact ⟨k, List.mem_range.2 h, by rw [hg]; decide⟩
  rw [this, Bool.false_and, Bool.and_false]
theorem tlb_all {es : List Ent} {ds : List Inv} (h : ∀ j, j < es.length → entGood es j = true) : tlbOk es ds = ((decide (es.length ≤ 8) && decide (ds.length ≤ 8)) && ds.all dueOk) := by
  rw [tlbOk_eq]
  have : (List.range es.length).all (entGood es) = true := by
    rw [List.all_eq_true]
    intro x hx
    exact h x (List.mem_range.1 hx)
  rw [this, Bool.true_and]
theorem good_step {es : List Ent} {k : Nat} (h : ∀ j, j < k → entGood es j = true) (hk : entGood es k = true) : ∀ j, j < k + 1 → entGood es j = true := fun j hj => by
  rcases Nat.lt_or_ge j k with h1 | h1
  · exact h j h1
  · rw [show j = k by omega]; exact hk
theorem tlbOk_ents {es : List Ent} {ds : List Inv} (h : tlbOk es ds = true) : es.length ≤ 8 ∧ ds.length ≤ 8 ∧ (∀ e ∈ es, entOk e = true) ∧ (∀ i ∈ ds, dueOk i = true) := by
  rw [tlbOk_eq] at h
  simp only [Bool.and_eq_true, decide_eq_true_eq, List.all_eq_true] at h
  obtain ⟨⟨h1, h2⟩, h3, h4⟩ := h
  refine ⟨h1, h2, fun e he => ?_, h4⟩
  obtain ⟨k, hk, rfl⟩ := List.getElem_of_mem he
  have := h3 k (List.mem_range.2 hk)
  rw [entGood_at hk rfl, Bool.and_eq_true] at this
  exact this.1

def okErr (b : Bool) : Int := if b then 0 else 1

set_option maxRecDepth 100000 in
set_option maxHeartbeats 8000000 in
theorem Check_any (t : Tl) (w : World) (h : TlAt w t) :
    Calls Try.prog 62 #[.agg t.cells.toArray] w fun e w' => e = .returned (.int .i64 (okErr (tlbOk t.es t.ds))) ∧ Below w.heap.size w w' := by
  obtain ⟨hel, hec, hea, hdl, hdc, hda⟩ := h
  obtain ⟨ea, ec, es, da, dc, ds⟩ := t
  dsimp only [Tl.cells] at *
  have HE := Lib.hid hea
  have HC := Lib.hid (fun W (hb : Below w.heap.size w W) => ContainsFunc_inv0 84 (fun i => !dueOk i) da dc ds W hdl (hda.below hb) (fun _ _ => by kernel_rfl) (fun W' x _ _ => due1_any x W'))
  have HN := Lib.hid (show (ds.any fun i => !dueOk i) = !(ds.all dueOk) by rw [List.not_all_eq_any_not])
  have E0 : okErr false = 1 := rfl
  have E1 : okErr true = 0 := rfl
  clear hea hda
  by_cases hl1 : 8 < es.length
  · have q0 : decide ((8 : Int) < es.length) = true := by simp; omega
    have HR := Lib.hid (tlb_big1 ds hl1)
    go_enter Try.func62, Try.ntmps62
    go_wp2
    go_ret
    exact ⟨by rw [HR.out]; rfl, (by repeat' (first | (with_reducible exact Below.refl _ _) | (with_reducible (refine Below.setCell ?_ ?_ _)) | (with_reducible (refine Below.alloc ?_ ?_ _)) | (with_reducible (refine Below.drew ?_)) | omega | (simp; done) | (simp; omega)))⟩
  by_cases hl2 : 8 < ds.length
  · have q0 : decide ((8 : Int) < es.length) = false := by simp; omega
    have q1 : decide ((8 : Int) < ds.length) = true := by simp; omega
    have HR := Lib.hid (tlb_big2 es hl2)
    go_enter Try.func62, Try.ntmps62
    go_wp2
    go_ret
    exact ⟨by rw [HR.out]; rfl, (by repeat' (first | (with_reducible exact Below.refl _ _) | (with_reducible (refine Below.setCell ?_ ?_ _)) | (with_reducible (refine Below.alloc ?_ ?_ _)) | (with_reducible (refine Below.drew ?_)) | omega | (simp; done) | (simp; omega)))⟩
  have q0 : decide ((8 : Int) < es.length) = false := by simp; omega
  have q1 : decide ((8 : Int) < ds.length) = false := by simp; omega
  go_enter Try.func62, Try.ntmps62
  go_wp2_with fail
  go_loopw [18] (fun i wr => ∃ k : Nat, k ≤ es.length ∧ i = .int .i64 k ∧ (∀ j, j < k → entGood es j = true) ∧ Below w.heap.size w wr ∧ wr.heap[w.heap.size]? = some (.cells #[.slice ea es.length ec, .slice da ds.length dc] tlbT (0, 0))) (fun i _ => es.length - (intOf i).toNat)
  case atStart => exact ⟨0, Nat.zero_le _, rfl, fun j hj => by omega, (by repeat' (first | (with_reducible exact Below.refl _ _) | (with_reducible (refine Below.setCell ?_ ?_ _)) | (with_reducible (refine Below.alloc ?_ ?_ _)) | (with_reducible (refine Below.drew ?_)) | omega | (simp; done) | (simp; omega))), heap_new _ _⟩
  case round =>
    obtain ⟨k, hk, rfl, hg, hbw, hx⟩ := hrel
    have HG := Lib.hid hg
    have HBW := Lib.hid hbw
    have HX := Lib.hid hx
    have hsw := heap_lt hx
    clear hg hbw hx
    by_cases hlt : k < es.length
    · obtain ⟨b, off, rfl, hbl, hc⟩ := at_cells HE.out HBW.out hlt
      have hbr : b < wr.heap.size := by omega
      obtain ⟨x, hxk⟩ : ∃ x, es[k] = x := ⟨_, rfl⟩
      rw [hxk] at hc
      have HGK := Lib.hid (entGood_at hlt hxk)
      clear hxk
      have HM := Lib.hid (fun W => emay_any x W)
      have HCT := Lib.hid (fun W (hb : Below w.heap.size w W) => Contains_ent x (some ⟨b, off, none⟩) ec (es.take k) W (by simp; omega) ((HE.out.below hb).pre k))
      rw [List.length_take, Nat.min_eq_left hk] at HCT
      generalize entOk x = g1 at *
      generalize (es.take k).any (entEq x) = g2 at *
      have HCT := Lib.hid (show ∀ (W : World), Below w.heap.size w W → Calls Try.prog 70 #[.slice (some ⟨b, off, none⟩) k ec, .agg x.cells.toArray] W fun e w' => e = .returned (.bool g2) ∧ Below W.heap.size W w' from HCT.out)
      obtain ⟨a0, a1, a2, a3, a4, a5, a6, a7, a8, a9, a10, a11, a12, a13⟩ := x
      dsimp only [Ent.cells] at hc HM HCT
      have c0 := hc 0 _ rfl
      have c1 := hc 1 _ rfl
      have c2 := hc 2 _ rfl
      have c3 := hc 3 _ rfl
      have c4 := hc 4 _ rfl
      have c5 := hc 5 _ rfl
      have c6 := hc 6 _ rfl
      have c7 := hc 7 _ rfl
      have c8 := hc 8 _ rfl
      have c9 := hc 9 _ rfl
      have c10 := hc 10 _ rfl
      have c11 := hc 11 _ rfl
      have c12 := hc 12 _ rfl
      have c13 := hc 13 _ rfl
      clear hc
      simp only [Nat.add_zero] at c0
      have cx := fun j => cell_of_row _ _ j _ _ _ HX.out
      have hki : (k : Int) < es.length := by omega
      have hkc : (k : Int) ≤ ec := by omega
      go_wp2_with fail
      clear c0 c1 c2 c3 c4 c5 c6 c7 c8 c9 c10 c11 c12 c13
      cases g1
      · refine wp_region_class (fun w' => Below (wr.heap.size + 1) (wr.alloc (.cells #[.int .i64 a0, .int .i64 a1, .int .i64 a2, .bool a3, .int .i64 a4, .int .i64 a5, .int .i64 a6, .int .i64 a7, .bool a8, .bool a9, .bool a10, .bool a11, .bool a12, .int .i64 a13] entT)) w') (by kernel_rfl) (by kernel_rfl) (Below.refl _ _).drew ?_
        repeat (first
          | (refine wpLex_pass (by rfl) passes_plain ?_; (conv => arg 9; simp only [put_lit, put_lit_none, List.set]))
          | (refine wpLex_plain (by rfl) ?_
             apply Exists.intro
             refine ⟨?_, ?_⟩
             · intro w' hb
               have hsz := hb.size
               try simp at hsz
               have hcw := fun b o (h : b < wr.heap.size + 1) => hb.cell (p := ⟨b, o, none⟩) h
               have hfw := fun b o (h : b < wr.heap.size + 1) => hb.frozen (p := ⟨b, o, none⟩) h
               go_simp
               first
                 | exact ⟨rfl, hb⟩
                 | exact rfl
                 | ((with_reducible refine Calls.mono (HM.out _) ?_); rintro e w2 ⟨rfl, hb2⟩; exact ⟨_, rfl, rfl, hb.trans (hb2.mono hsz)⟩)
                 | ((with_reducible refine Calls.mono (HCT.out _ (by repeat' (first | (with_reducible exact Below.refl _ _) | (with_reducible (refine Below.setCell ?_ ?_ _)) | (with_reducible (refine Below.alloc ?_ ?_ _)) | (with_reducible (refine Below.drew ?_)) | (with_reducible (refine below_via ?_ hb ?_)) | (with_reducible (refine below_via ?_ HBW.out ?_)) | omega | (simp; done) | (simp; omega)))) ?_); rintro e w2 ⟨rfl, hb2⟩; exact ⟨_, rfl, rfl, hb.trans (hb2.mono hsz)⟩)
             conv => arg 9; simp only [put_lit, put_lit_none, List.set]))
        refine wpLex_nil ?_
        intro wq hbq
        have hsq := hbq.size
        try simp at hsq
        have hcq := fun b o (h : b < wr.heap.size + 1) => hbq.cell (p := ⟨b, o, none⟩) h
        have hfq := fun b o (h : b < wr.heap.size + 1) => hbq.frozen (p := ⟨b, o, none⟩) h
        have HBq := Lib.hid hbq
        clear hbq
        go_wp2
        go_ret
        exact ⟨by rw [tlb_bad ds hlt (by rw [HGK.out]; rfl)]; rfl, (by repeat' (first | (with_reducible exact Below.refl _ _) | (with_reducible (refine Below.setCell ?_ ?_ _)) | (with_reducible (refine Below.alloc ?_ ?_ _)) | (with_reducible (refine Below.drew ?_)) | (with_reducible (refine below_via ?_ HBq.out ?_)) | (with_reducible (refine below_via ?_ HBW.out ?_)) | omega | (simp; done) | (simp; omega)))⟩
      · cases g2
        · refine wp_region_class (fun w' => Below (wr.heap.size + 1) (wr.alloc (.cells #[.int .i64 a0, .int .i64 a1, .int .i64 a2, .bool a3, .int .i64 a4, .int .i64 a5, .int .i64 a6, .int .i64 a7, .bool a8, .bool a9, .bool a10, .bool a11, .bool a12, .int .i64 a13] entT)) w') (by kernel_rfl) (by kernel_rfl) (Below.refl _ _).drew ?_
          repeat (first
            | (refine wpLex_pass (by rfl) passes_plain ?_; (conv => arg 9; simp only [put_lit, put_lit_none, List.set]))
            | (refine wpLex_plain (by rfl) ?_
               apply Exists.intro
               refine ⟨?_, ?_⟩
               · intro w' hb
                 have hsz := hb.size
                 try simp at hsz
                 have hcw := fun b o (h : b < wr.heap.size + 1) => hb.cell (p := ⟨b, o, none⟩) h
                 have hfw := fun b o (h : b < wr.heap.size + 1) => hb.frozen (p := ⟨b, o, none⟩) h
                 go_simp
                 first
                   | exact ⟨rfl, hb⟩
                   | exact rfl
                   | ((with_reducible refine Calls.mono (HM.out _) ?_); rintro e w2 ⟨rfl, hb2⟩; exact ⟨_, rfl, rfl, hb.trans (hb2.mono hsz)⟩)
                   | ((with_reducible refine Calls.mono (HCT.out _ (by repeat' (first | (with_reducible exact Below.refl _ _) | (with_reducible (refine Below.setCell ?_ ?_ _)) | (with_reducible (refine Below.alloc ?_ ?_ _)) | (with_reducible (refine Below.drew ?_)) | (with_reducible (refine below_via ?_ hb ?_)) | (with_reducible (refine below_via ?_ HBW.out ?_)) | omega | (simp; done) | (simp; omega)))) ?_); rintro e w2 ⟨rfl, hb2⟩; exact ⟨_, rfl, rfl, hb.trans (hb2.mono hsz)⟩)
               conv => arg 9; simp only [put_lit, put_lit_none, List.set]))
          refine wpLex_nil ?_
          intro wq hbq
          have hsq := hbq.size
          try simp at hsq
          have hcq := fun b o (h : b < wr.heap.size + 1) => hbq.cell (p := ⟨b, o, none⟩) h
          have hfq := fun b o (h : b < wr.heap.size + 1) => hbq.frozen (p := ⟨b, o, none⟩) h
          have HBq := Lib.hid hbq
          clear hbq
          clear cx hcq hfq
          go_wp2
          go_roundw
          case rel => exact ⟨k + 1, by omega, by go_num, good_step HG.out (by rw [HGK.out]; rfl), (by repeat' (first | (with_reducible exact Below.refl _ _) | (with_reducible (refine Below.setCell ?_ ?_ _)) | (with_reducible (refine Below.alloc ?_ ?_ _)) | (with_reducible (refine Below.drew ?_)) | (with_reducible (refine below_via ?_ HBq.out ?_)) | (with_reducible (refine below_via ?_ HBW.out ?_)) | omega | (simp; done) | (simp; omega))), (by repeat (first | (with_reducible assumption) | (with_reducible exact HX.out) | (with_reducible refine heap_below_is HBq.out (by (first | omega | (simp; done) | (simp; omega))) ?_) | (exact heap_at _ _ (by simp; done)) | (with_reducible refine heap_old_is _ _ (by (first | omega | (simp; done) | (simp; omega))) ?_) | (with_reducible refine heap_far_is (by (first | omega | (simp; done) | (simp; omega))) ?_)))⟩
          case measure => simp [intOf]; omega
        · refine wp_region_class (fun w' => Below (wr.heap.size + 1) (wr.alloc (.cells #[.int .i64 a0, .int .i64 a1, .int .i64 a2, .bool a3, .int .i64 a4, .int .i64 a5, .int .i64 a6, .int .i64 a7, .bool a8, .bool a9, .bool a10, .bool a11, .bool a12, .int .i64 a13] entT)) w') (by kernel_rfl) (by kernel_rfl) (Below.refl _ _).drew ?_
          repeat (first
            | (refine wpLex_pass (by rfl) passes_plain ?_; (conv => arg 9; simp only [put_lit, put_lit_none, List.set]))
            | (refine wpLex_plain (by rfl) ?_
               apply Exists.intro
               refine ⟨?_, ?_⟩
               · intro w' hb
                 have hsz := hb.size
                 try simp at hsz
                 have hcw := fun b o (h : b < wr.heap.size + 1) => hb.cell (p := ⟨b, o, none⟩) h
                 have hfw := fun b o (h : b < wr.heap.size + 1) => hb.frozen (p := ⟨b, o, none⟩) h
                 go_simp
                 first
                   | exact ⟨rfl, hb⟩
                   | exact rfl
                   | ((with_reducible refine Calls.mono (HM.out _) ?_); rintro e w2 ⟨rfl, hb2⟩; exact ⟨_, rfl, rfl, hb.trans (hb2.mono hsz)⟩)
                   | ((with_reducible refine Calls.mono (HCT.out _ (by repeat' (first | (with_reducible exact Below.refl _ _) | (with_reducible (refine Below.setCell ?_ ?_ _)) | (with_reducible (refine Below.alloc ?_ ?_ _)) | (with_reducible (refine Below.drew ?_)) | (with_reducible (refine below_via ?_ hb ?_)) | (with_reducible (refine below_via ?_ HBW.out ?_)) | omega | (simp; done) | (simp; omega)))) ?_); rintro e w2 ⟨rfl, hb2⟩; exact ⟨_, rfl, rfl, hb.trans (hb2.mono hsz)⟩)
               conv => arg 9; simp only [put_lit, put_lit_none, List.set]))
          refine wpLex_nil ?_
          intro wq hbq
          have hsq := hbq.size
          try simp at hsq
          have hcq := fun b o (h : b < wr.heap.size + 1) => hbq.cell (p := ⟨b, o, none⟩) h
          have hfq := fun b o (h : b < wr.heap.size + 1) => hbq.frozen (p := ⟨b, o, none⟩) h
          have HBq := Lib.hid hbq
          clear hbq
          go_wp2
          go_ret
          exact ⟨by rw [tlb_bad ds hlt (by rw [HGK.out]; rfl)]; rfl, (by repeat' (first | (with_reducible exact Below.refl _ _) | (with_reducible (refine Below.setCell ?_ ?_ _)) | (with_reducible (refine Below.alloc ?_ ?_ _)) | (with_reducible (refine Below.drew ?_)) | (with_reducible (refine below_via ?_ HBq.out ?_)) | (with_reducible (refine below_via ?_ HBW.out ?_)) | omega | (simp; done) | (simp; omega)))⟩
    · have cx := fun j => cell_of_row _ _ j _ _ _ HX.out
      have HR := Lib.hid (tlb_all (ds := ds) (fun j hj => HG.out j (by omega)))
      rw [show decide (es.length ≤ 8) = true by simp; omega, show decide (ds.length ≤ 8) = true by simp; omega] at HR
      go_wp2_with fail
      refine Calls.mono (HC.out _ HBW.out) ?_
      rintro e w1 ⟨rfl, hb1⟩
      have hs1 := hb1.size
      try simp at hs1
      have HB1 := Lib.hid hb1
      clear hb1
      rw [HN.out]
      generalize ds.all dueOk = g at *
      cases g
      · go_wp2
        go_ret
        exact ⟨by rw [HR.out]; rfl, (by repeat' (first | (with_reducible exact Below.refl _ _) | (with_reducible (refine Below.setCell ?_ ?_ _)) | (with_reducible (refine Below.alloc ?_ ?_ _)) | (with_reducible (refine Below.drew ?_)) | (with_reducible (refine below_via ?_ HB1.out ?_)) | (with_reducible (refine below_via ?_ HBW.out ?_)) | omega | (simp; done) | (simp; omega)))⟩
      · go_wp2
        go_ret
        exact ⟨by rw [HR.out]; rfl, (by repeat' (first | (with_reducible exact Below.refl _ _) | (with_reducible (refine Below.setCell ?_ ?_ _)) | (with_reducible (refine Below.alloc ?_ ?_ _)) | (with_reducible (refine Below.drew ?_)) | (with_reducible (refine below_via ?_ HB1.out ?_)) | (with_reducible (refine below_via ?_ HBW.out ?_)) | omega | (simp; done) | (simp; omega)))⟩

end Go.Proofs.Ytbaninglcafhhaa
