/-
  A TLB without what is taken away: the page's answer. Conditions: it reads; it may be.
-/
import Derived.Test.YtbaninglcafhhaaApp
import Derived.Test.YtbaninglcafhhaaTakeB
import Derived.Test.YtbaninglcafhhaaPut
import Derived.Test.YtbaninglcafhhaaNew
import Derived.Test.YtbaninglcafhhaaMore
namespace Go.Proofs.Ytbaninglcafhhaa
open Go.RowKit

section
variable {P : Program} {w : World}
theorem wpList_app1 {ops : Array Oper} {rest : List Oper} {o : Oper} {a : Act} {Q : Exit → Act → World → Prop} (hgd : o.guard = none) (s x : Operand) (t : TypeId)
    (ho : o.op = .call { callee := .builtin .append, args := #[s, x], argTypes := #[t, t] })
    (base : Nat) (e : TypeId) (i : TypeInfo) (z : Value) (size bytes : Nat) (ht : P.underlying t = some (.slice e)) (hi : P.info? e = some i) (hz : i.zero = some z)
    (hsize : i.size = size) (hby : i.bytes = bytes) (hzs : z.cells.size = size) (hsz : 0 < size)
    (v : Value) (n : Nat) (xs : List Value) (hs : a.eval s = v) (hown : w.ownsRow base e size v n xs)
    (g : Nat) (news : Array Value) (hx : a.eval x = .slice (some ⟨g, 0, none⟩) 1 1) (hg : w.heap[g]? = some (.cells news e (0, 0))) (hnew : news.size = size) (h1 : ∀ u ∈ news.toList, u.oneCell' = true)
    (h63 : n + 1 ≤ maxLen) (hbytes : (n + 1) * bytes ≤ 140737488355328) (hbase : base ≤ w.heap.size)
    (h : ∀ v' w', w'.ownsRow base e size v' (n + 1) (xs ++ news.toList) → Below base w w' → wpList P ops Q rest (a.put o.dst v') w') : wpList P ops Q (o :: rest) a w := by
  have hr : Reads w w.heap.size size (some ⟨g, 0, none⟩) 1 news.toList := by
    refine ⟨by simp [hnew], fun _ => ⟨_, rfl, heap_lt hg, fun j u hu => ?_⟩⟩
    have e1 : (⟨g, 0, none⟩ : Addr).add j = ⟨g, j, none⟩ := by
      unfold Addr.add
      by_cases z : j = 0 <;> simp [z]
    rw [e1, cell_of_row _ _ j _ _ _ hg]
    simpa using hu
  refine wpList_append_any _ hgd s x t ho base e i z size bytes ht hi hz hsize hby hzs hsz v n xs hs hown _ _ 1 1 news.toList hx hr h1 h63 hbytes hbase ?_
  intro v' w' hown' hg' _
  exact h v' w' hown' ((Below.refl _ _).grown hg' hbase (fun k hk => (hown.lt k hk).1))
end

theorem gone_snoc {l : List Inv} {m : Nat} (hm : m < l.length) {i : Inv} (hi : l[m] = i) (e : Ent) : goneE (l.take (m + 1)) e = (goneE (l.take m) e || takesE i e) := by
  unfold goneE
  rw [take_snoc_get l m hm, List.any_append, hi]
  simp
theorem keep_snoc {es : List Ent} {k : Nat} (hk : k < es.length) {e : Ent} (he : es[k] = e) (p : Ent → Bool) : (es.take (k + 1)).filter p = (es.take k).filter p ++ (if p e then [e] else []) := by
  rw [take_snoc_get es k hk, List.filter_append, he]
  by_cases h : p e <;> simp [h]

set_option maxRecDepth 100000 in
set_option maxHeartbeats 8000000 in
theorem rApply_any (t : Tl) (L : Option Addr) (cl : Nat) (l : List Inv) (w : World) (h : TlAt w t) (hl : l.length ≤ 140737488355328) (hL : At w L 4 Inv.cells l) (h1 : t.es.length ≤ 1000000) (h2 : t.ds.length ≤ 1000000) (hok : ∀ e ∈ t.es, entOk e = true) (hd : ∀ i ∈ l, dueOk i = true) :
    Calls Try.prog 38 #[.agg t.cells.toArray, .slice L l.length cl] w fun y w' => ∃ A c B d, y = .returned (.agg #[.slice A (t.es.filter fun e => !goneE l e).length c, .slice B t.ds.length d]) ∧
      Own w' (w.heap.size + 2) entT 14 Ent.cells (t.es.filter fun e => !goneE l e) A c ∧ Own w' (w.heap.size + 2) invT 4 Inv.cells t.ds B d ∧ Below w.heap.size w w' := by
  obtain ⟨i0, hi0, hz0, hz1, hz2⟩ := info_parts ent_info
  obtain ⟨hel, hec, hea, hdl, hdc, hda⟩ := h
  obtain ⟨ea, ec, es, da, dc, ds⟩ := t
  dsimp only [Tl.cells] at *
  have HD := Lib.hid (fun W (hb : Below w.heap.size w W) => Copy_inv da dc ds W h2 (hda.below hb))
  have HE := Lib.hid hea
  have HI := Lib.hid hL
  have HT := Lib.hid (fun (i : Inv) (e : Ent) W (hi : i ∈ l) (he : e ∈ es) => rtakes_any i e W (hok e he) (dueOk_page (hd i hi)).1 (dueOk_page (hd i hi)).2)
  have HFL := Lib.hid (fun k => Nat.le_trans (List.length_filter_le (fun e => !goneE l e) (es.take k)) (List.length_take_le' k es))
  clear hea hda hL hok hd
  go_enter Try.func38, Try.ntmps38
  go_wp2_with fail
  refine Calls.mono (HD.out _ (by repeat' (first | (with_reducible exact Below.refl _ _) | (with_reducible (refine Below.setCell ?_ ?_ _)) | (with_reducible (refine Below.alloc ?_ ?_ _)) | (with_reducible (refine Below.drew ?_)) | omega | (simp; done) | (simp; omega)))) ?_
  rintro e w1 ⟨B, d, rfl, hown1, hb1⟩
  have hs1 := hb1.size
  try simp at hs1
  have hc1_0 := fun o => (bcell hb1).1 (w.heap.size) o (by first | omega | (simp; done) | (simp; omega))
  have hf1_0 := fun o => (bcell hb1).2.1 (w.heap.size) o (by first | omega | (simp; done) | (simp; omega))
  have hz1_0 := (bcell hb1).2.2 (w.heap.size) (by first | omega | (simp; done) | (simp; omega))
  have hc1_1 := fun o => (bcell hb1).1 (w.heap.size + 1) o (by first | omega | (simp; done) | (simp; omega))
  have hf1_1 := fun o => (bcell hb1).2.1 (w.heap.size + 1) o (by first | omega | (simp; done) | (simp; omega))
  have hz1_1 := (bcell hb1).2.2 (w.heap.size + 1) (by first | omega | (simp; done) | (simp; omega))
  have HB1 := Lib.hid hb1
  clear hb1
  have Hhown1 := Lib.hid hown1
  clear hown1
  go_wp2_with fail
  refine name_world ?_
  intro wo hwo
  have HXO := Lib.hid (show wo.heap[w1.heap.size]? = some (.cells #[.slice none 0 0, .slice B ds.length d] tlbT (0, 0)) by rw [hwo]; exact heap_new _ _)
  have HB := Lib.hid (show Below w1.heap.size w1 wo by rw [hwo]; exact (Below.refl _ _).alloc (Nat.le_refl _) _)
  have HA := Lib.hid (show Below w.heap.size w wo by rw [hwo]; repeat' (first | (with_reducible exact Below.refl _ _) | (with_reducible (refine Below.setCell ?_ ?_ _)) | (with_reducible (refine Below.alloc ?_ ?_ _)) | (with_reducible (refine Below.drew ?_)) | (with_reducible (refine below_via ?_ HB1.out ?_)) | omega | (simp; done) | (simp; omega)))
  have HX0 := Lib.hid (show wo.heap[w.heap.size]? = some (.cells #[.slice ea es.length ec, .slice da ds.length dc] tlbT (0, 0)) by rw [hwo]; exact (by repeat (first | (with_reducible assumption) | (with_reducible refine heap_below_is HB1.out (by (first | omega | (simp; done) | (simp; omega))) ?_) | (exact heap_at _ _ (by simp; done)) | (with_reducible refine heap_old_is _ _ (by (first | omega | (simp; done) | (simp; omega))) ?_) | (with_reducible refine heap_far_is (by (first | omega | (simp; done) | (simp; omega))) ?_))))
  have HX1 := Lib.hid (show wo.heap[w.heap.size + 1]? = some (.cells #[.slice none 0 0, .slice none 0 0] tlbT (0, 0)) by rw [hwo]; exact (by repeat (first | (with_reducible assumption) | (with_reducible refine heap_below_is HB1.out (by (first | omega | (simp; done) | (simp; omega))) ?_) | (exact heap_at _ _ (by simp; done)) | (with_reducible refine heap_old_is _ _ (by (first | omega | (simp; done) | (simp; omega))) ?_) | (with_reducible refine heap_far_is (by (first | omega | (simp; done) | (simp; omega))) ?_))))
  have hso : w1.heap.size < wo.heap.size := by rw [hwo]; simp
  clear hwo hc1_0 hf1_0 hz1_0 hc1_1 hf1_1 hz1_1
  go_loopw [6] (fun i wr => ∃ (k : Nat) (A : Option Addr) (c : Nat), k ≤ es.length ∧ i = .int .i64 k ∧ Below w1.heap.size wo wr ∧ wr.heap[w1.heap.size]? = some (.cells #[.slice A ((es.take k).filter fun e => !goneE l e).length c, .slice B ds.length d] tlbT (0, 0)) ∧ Own wr (w1.heap.size + 1) entT 14 Ent.cells ((es.take k).filter fun e => !goneE l e) A c) (fun i _ => es.length - (intOf i).toNat)
  case atStart => exact ⟨0, none, 0, Nat.zero_le _, rfl, Below.refl _ _, by simpa using HXO.out, World.ownsRow_nil _ _ _ _⟩
  case round =>
    obtain ⟨k, A, c, hk, rfl, hbw, hxw, how⟩ := hrel
    have HBW := Lib.hid hbw
    have HXW := Lib.hid hxw
    have HOW := Lib.hid how
    have hsw := hbw.size
    have hfl := HFL.out k
    have HSN := Lib.hid (fun (hlt : k < es.length) (e : Ent) (he : es[k] = e) => keep_snoc hlt he (fun e => !goneE l e))
    clear hbw hxw how
    have HY0 := Lib.hid (show wr.heap[w.heap.size]? = _ from (HBW.out.block _ (by omega)).trans HX0.out)
    have c0 := fun j => cell_of_row _ _ j _ _ _ HY0.out
    have f0 := fun j => frozen_of_row _ _ j _ _ HY0.out
    by_cases hlt : k < es.length
    · have hki : (k : Int) < es.length := by omega
      have HBR := Lib.hid (below_via HA.out HBW.out (by omega))
      obtain ⟨be, oe, rfl, hbe, hce⟩ := at_cells HE.out HBR.out hlt
      have HTK := Lib.hid (fun (i : Inv) W (hi : i ∈ l) => HT.out i es[k] W hi (List.getElem_mem hlt))
      obtain ⟨e, hek⟩ : ∃ e, es[k] = e := ⟨_, rfl⟩
      have HSK := Lib.hid (HSN.out hlt e hek)
      rw [hek] at hce HTK
      clear hek HSN
      have d0 := hce 0 _ rfl
      have d1 := hce 1 _ rfl
      have d2 := hce 2 _ rfl
      have d3 := hce 3 _ rfl
      have d4 := hce 4 _ rfl
      have d5 := hce 5 _ rfl
      have d6 := hce 6 _ rfl
      have d7 := hce 7 _ rfl
      have d8 := hce 8 _ rfl
      have d9 := hce 9 _ rfl
      have d10 := hce 10 _ rfl
      have d11 := hce 11 _ rfl
      have d12 := hce 12 _ rfl
      have d13 := hce 13 _ rfl
      simp only [Nat.add_zero] at d0
      clear hce
      have hGE : goneE [] e = false := rfl
      have HGE := Lib.hid hGE
      clear hGE
      go_wp2_with fail
      obtain ⟨wq, rfl⟩ : ∃ wq : World, wq = wr := ⟨_, rfl⟩
      go_loopw [7, 8] (fun gv j wr => ∃ m : Nat, m ≤ l.length ∧ j = .int .i64 m ∧ gv = .bool (goneE (l.take m) e) ∧ Below wq.heap.size wq wr) (fun _ j _ => l.length - (intOf j).toNat)
      case atStart => exact ⟨0, Nat.zero_le _, rfl, by rw [List.take_zero, HGE.out], Below.refl _ _⟩
      case round =>
        obtain ⟨m, hm, rfl, rfl, hbv⟩ := hrel
        have HBV := Lib.hid hbv
        have hsv := hbv.size
        clear hbv
        have hcv := fun b o (h : b < wq.heap.size) => HBV.out.cell (p := ⟨b, o, none⟩) h
        have hfv := fun b o (h : b < wq.heap.size) => HBV.out.frozen (p := ⟨b, o, none⟩) h
        have hb1 : be < wq.heap.size := by have := HBR.out.size; omega
        have hb2 : w.heap.size < wq.heap.size := by omega
        by_cases hmt : m < l.length
        · have hmi : (m : Int) < l.length := by omega
          have HBS := Lib.hid (below_via HBR.out HBV.out (by have := HBR.out.size; omega))
          obtain ⟨bi, oi, rfl, hbi, hci⟩ := at_cells HI.out HBS.out hmt
          have HTT := Lib.hid (fun W => HTK.out l[m] W (List.getElem_mem hmt))
          obtain ⟨i, him⟩ : ∃ i, l[m] = i := ⟨_, rfl⟩
          have HSM := Lib.hid (gone_snoc hmt him e)
          rw [him] at hci HTT
          clear him
          have i0 := hci 0 _ rfl
          have i1 := hci 1 _ rfl
          have i2 := hci 2 _ rfl
          have i3 := hci 3 _ rfl
          simp only [Nat.add_zero] at i0
          clear hci
          have hb3 : bi < wr.heap.size := by have := HBS.out.size; omega
          have hb4 : be < wr.heap.size := by omega
          have hb5 : w.heap.size < wr.heap.size := by omega
          generalize goneE (l.take m) e = gn at *
          generalize takesE i e = tk at *
          obtain ⟨b0, b1, b2, b3⟩ := i
          obtain ⟨a0, a1, a2, a3, a4, a5, a6, a7, a8, a9, a10, a11, a12, a13⟩ := e
          dsimp only [Ent.cells, Inv.cells] at *
          cases gn
          · go_wp2_with fail
            refine wp_region_class (fun w' => Below (wr.heap.size) (wr) w') (by kernel_rfl) (by kernel_rfl) (Below.refl _ _).drew ?_
            repeat (first
              | (refine wpLex_pass (by rfl) passes_plain ?_; (conv => arg 9; simp only [put_lit, put_lit_none, List.set]))
              | (refine wpLex_plain (by rfl) ?_
                 apply Exists.intro
                 refine ⟨?_, ?_⟩
                 · intro w' hb
                   have hsz := hb.size
                   try simp at hsz
                   have hcw := fun b o (h : b < wr.heap.size) => hb.cell (p := ⟨b, o, none⟩) h
                   have hfw := fun b o (h : b < wr.heap.size) => hb.frozen (p := ⟨b, o, none⟩) h
                   go_simp
                   first
                     | exact ⟨rfl, hb⟩
                     | exact rfl
                     | ((with_reducible refine Calls.mono (HTT.out _) ?_); rintro e w2 ⟨rfl, hb2⟩; exact ⟨_, rfl, rfl, hb.trans (hb2.mono hsz)⟩)
                 conv => arg 9; simp only [put_lit, put_lit_none, List.set]))
            refine wpLex_nil ?_
            intro wq hbq
            have hsq := hbq.size
            try simp at hsq
            have hcq := fun b o (h : b < wr.heap.size) => hbq.cell (p := ⟨b, o, none⟩) h
            have hfq := fun b o (h : b < wr.heap.size) => hbq.frozen (p := ⟨b, o, none⟩) h
            have HBq := Lib.hid hbq
            clear hbq
            go_wp2_with fail
            go_roundw
            case rel => exact ⟨m + 1, by omega, by go_num, by rw [HSM.out, Bool.false_or], (by repeat' (first | (with_reducible exact Below.refl _ _) | (with_reducible (refine Below.setCell ?_ ?_ _)) | (with_reducible (refine Below.alloc ?_ ?_ _)) | (with_reducible (refine Below.drew ?_)) | (with_reducible (refine below_via ?_ HBq.out ?_)) | (with_reducible (refine below_via ?_ HBV.out ?_)) | omega | (simp; done) | (simp; omega)))⟩
            case measure => simp [intOf]; omega
          · go_wp2_with fail
            refine wp_region_class (fun w' => Below (wr.heap.size) (wr) w') (by kernel_rfl) (by kernel_rfl) (Below.refl _ _).drew ?_
            repeat (first
              | (refine wpLex_pass (by rfl) passes_plain ?_; (conv => arg 9; simp only [put_lit, put_lit_none, List.set]))
              | (refine wpLex_plain (by rfl) ?_
                 apply Exists.intro
                 refine ⟨?_, ?_⟩
                 · intro w' hb
                   have hsz := hb.size
                   try simp at hsz
                   have hcw := fun b o (h : b < wr.heap.size) => hb.cell (p := ⟨b, o, none⟩) h
                   have hfw := fun b o (h : b < wr.heap.size) => hb.frozen (p := ⟨b, o, none⟩) h
                   go_simp
                   first
                     | exact ⟨rfl, hb⟩
                     | exact rfl
                 conv => arg 9; simp only [put_lit, put_lit_none, List.set]))
            refine wpLex_nil ?_
            intro wq hbq
            have hsq := hbq.size
            try simp at hsq
            have hcq := fun b o (h : b < wr.heap.size) => hbq.cell (p := ⟨b, o, none⟩) h
            have hfq := fun b o (h : b < wr.heap.size) => hbq.frozen (p := ⟨b, o, none⟩) h
            have HBq := Lib.hid hbq
            clear hbq
            go_wp2_with fail
            go_roundw
            case rel => exact ⟨m + 1, by omega, by go_num, by rw [HSM.out, Bool.true_or], (by repeat' (first | (with_reducible exact Below.refl _ _) | (with_reducible (refine Below.setCell ?_ ?_ _)) | (with_reducible (refine Below.alloc ?_ ?_ _)) | (with_reducible (refine Below.drew ?_)) | (with_reducible (refine below_via ?_ HBq.out ?_)) | (with_reducible (refine below_via ?_ HBV.out ?_)) | omega | (simp; done) | (simp; omega)))⟩
            case measure => simp [intOf]; omega
        · have hmi : ¬ (m : Int) < l.length := by omega
          rw [List.take_of_length_le (show l.length ≤ m by omega)]
          have HXV := Lib.hid (show wr.heap[w1.heap.size]? = _ from (HBV.out.block _ (by omega)).trans HXW.out)
          have HOV := Lib.hid (HOW.out.below HBV.out (Nat.le_refl _))
          have hb4 : be < wr.heap.size := by omega
          have hb5 : w.heap.size < wr.heap.size := by omega
          have hb6 : w1.heap.size < wr.heap.size := by omega
          have x0 := fun j => cell_of_row _ _ j _ _ _ HXV.out
          have x1 := fun j => frozen_of_row _ _ j _ _ HXV.out
          generalize goneE l e = gn at *
          cases gn
          · have hsk := HSK.out
            rw [show (if (!false) = true then [e] else []) = [e] from rfl] at hsk
            have HSK2 := Lib.hid hsk
            clear hsk HSK HTK HGE
            generalize (es.take k).filter (fun e => !goneE l e) = xs at *
            obtain ⟨ys, hys⟩ : ∃ ys, ys = xs ++ [e] := ⟨_, rfl⟩
            have HYS := Lib.hid hys
            clear hys
            obtain ⟨a0, a1, a2, a3, a4, a5, a6, a7, a8, a9, a10, a11, a12, a13⟩ := e
            dsimp only [Ent.cells] at *
            go_wp2_with fail
            refine wp_region_lex_tail 8 [48] (NewC (wr) 48 7 (fun g => .slice (some ⟨g, 0, none⟩) 1 1) (entT) (#[.int .i64 a0, .int .i64 a1, .int .i64 a2, .bool a3, .int .i64 a4, .int .i64 a5, .int .i64 a6, .int .i64 a7, .bool a8, .bool a9, .bool a10, .bool a11, .bool a12, .int .i64 a13])) newC_looks (by kernel_rfl) (by kernel_rfl) (by kernel_rfl) (by kernel_rfl) (newC_start _) ?_
            repeat (first
              | (refine wpLex_pass (by rfl) (passes_new (by decide) (by rfl)) ?_; (conv => arg 9; simp only [put_lit, put_lit_none, List.set]))
              | (refine wpLex_new (by rfl) (by rfl) (by decide) (by rfl) ?_
                 apply Exists.intro
                 refine ⟨?_, ?_⟩
                 · intro w' hb
                   have hsz := hb.size
                   try simp at hsz
                   have hcw := fun b o (h : b < (wr).heap.size) => hb.cell (p := ⟨b, o, none⟩) h
                   have hfw := fun b o (h : b < (wr).heap.size) => hb.frozen (p := ⟨b, o, none⟩) h
                   go_simp
                   first
                     | exact ⟨rfl, Below.refl _ _⟩
                     | exact Below.refl _ _
                 conv => arg 9; simp only [put_lit, put_lit_none, List.set])
              | (refine wpLex_want undef (by rfl) (comes_new rfl (by simp) rfl (by decide) (fun w _ => by go_simp; rfl)) ?_; (conv => arg 9; simp only [put_lit, put_lit_none, List.set])))
            refine wpLex_nil ?_
            intro wp bp dp hdp hCp hop
            obtain ⟨gp, rfl, hgp, hxp, hbp⟩ := newC_end hCp (hdp 7 (by decide)) hop
            clear hCp hdp hop
            simp only [put_lit, List.set]
            have hsp := hbp.size
            try simp at hsp hgp
            have hlp := heap_lt hxp
            have hcp := fun b o (h : b < (wr).heap.size) => hbp.cell (p := ⟨b, o, none⟩) h
            have hfp := fun b o (h : b < (wr).heap.size) => hbp.frozen (p := ⟨b, o, none⟩) h
            have HBp := Lib.hid hbp
            have HXp := Lib.hid hxp
            clear hbp hxp
            simp only [List.drop]
            have HOP := Lib.hid (HOV.out.below HBp.out (Nat.le_refl _))
            refine wpList_app1 rfl (.tmp 42) (.tmp 48) _ rfl (w1.heap.size + 1) entT i0 _ 14 80 Try.underlying24 hi0 hz0 hz1 hz2 rfl (by omega) _ xs.length _ rfl HOP.out gp #[.int .i64 a0, .int .i64 a1, .int .i64 a2, .bool a3, .int .i64 a4, .int .i64 a5, .int .i64 a6, .int .i64 a7, .bool a8, .bool a9, .bool a10, .bool a11, .bool a12, .int .i64 a13] rfl HXp.out rfl (by simp [Value.oneCell']) (by simp only [maxLen]; omega) (by omega) (by omega) ?_
            intro v5 w5 hown5 hb5
            obtain ⟨A5, c5, rfl, ho5⟩ := own_form (l := ys) (by rw [HYS.out, List.length_append, List.flatMap_append, List.flatMap_singleton]; exact hown5)
            have HO5 := Lib.hid ho5
            clear hown5 ho5
            have HB5 := Lib.hid hb5
            have hs5 := hb5.size
            clear hb5
            have HX5 := Lib.hid (show w5.heap[w1.heap.size]? = some (.cells #[.slice A xs.length c, .slice B ds.length d] tlbT (0, 0)) from (by repeat (first | (with_reducible assumption) | (with_reducible exact HXV.out) | (with_reducible refine heap_below_is HB5.out (by (first | omega | (simp; done) | (simp; omega))) ?_) | (with_reducible refine heap_below_is HBp.out (by (first | omega | (simp; done) | (simp; omega))) ?_) | (exact heap_at _ _ (by simp; done)) | (with_reducible refine heap_old_is _ _ (by (first | omega | (simp; done) | (simp; omega))) ?_) | (with_reducible refine heap_far_is (by (first | omega | (simp; done) | (simp; omega))) ?_))))
            have x5 := fun j => cell_of_row _ _ j _ _ _ HX5.out
            have f5 := fun j => frozen_of_row _ _ j _ _ HX5.out
            go_wp2
            go_roundw
            case rel => exact ⟨k + 1, A5, c5, by omega, by go_num, (by repeat' (first | (with_reducible exact Below.refl _ _) | (with_reducible (refine Below.setCell ?_ ?_ _)) | (with_reducible (refine Below.alloc ?_ ?_ _)) | (with_reducible (refine Below.drew ?_)) | (with_reducible (refine below_via ?_ HB5.out ?_)) | (with_reducible (refine below_via ?_ HBp.out ?_)) | (with_reducible (refine below_via ?_ HBV.out ?_)) | (with_reducible (refine below_via ?_ HBW.out ?_)) | omega | (simp; done) | (simp; omega))), by rw [HSK2.out, ← HYS.out]; exact heap_set_same HX5.out 0 _, by rw [HSK2.out, ← HYS.out]; exact HO5.out.set_far (by simp) _⟩
            case measure => simp [intOf]; omega
          · go_wp2_with fail
            go_roundw
            case rel => exact ⟨k + 1, A, c, by omega, by go_num, (by repeat' (first | (with_reducible exact Below.refl _ _) | (with_reducible (refine Below.setCell ?_ ?_ _)) | (with_reducible (refine Below.alloc ?_ ?_ _)) | (with_reducible (refine Below.drew ?_)) | (with_reducible (refine below_via ?_ HBV.out ?_)) | (with_reducible (refine below_via ?_ HBW.out ?_)) | omega | (simp; done) | (simp; omega))), by rw [HSK.out]; simpa using HXV.out, by rw [HSK.out]; simpa using HOV.out⟩
            case measure => simp [intOf]; omega
    · have hki : ¬ (k : Int) < es.length := by omega
      have hxe := HXW.out
      have hoe := HOW.out
      rw [List.take_of_length_le (show es.length ≤ k by omega)] at hxe hoe
      have HXE := Lib.hid hxe
      have HOE := Lib.hid hoe
      clear hxe hoe HSN hfl
      have HBB := Lib.hid (HB.out.trans HBW.out)
      have HDS := Lib.hid (Hhown1.out.below HBB.out (Nat.le_refl _))
      have HY1 := Lib.hid (show wr.heap[w.heap.size + 1]? = _ from (HBW.out.block _ (by omega)).trans HX1.out)
      have e5 := fun j => cell_of_row _ _ j _ _ _ HXE.out
      have f5 := fun j => frozen_of_row _ _ j _ _ HXE.out
      have e1 := fun j => cell_of_row _ _ j _ _ _ HY1.out
      have f1 := fun j => frozen_of_row _ _ j _ _ HY1.out
      go_wp2
      refine bodyPost_ret (v := .agg #[.slice A (es.filter fun e => !goneE l e).length c, .slice B ds.length d]) (by simp [results, Try.results38, go_sem, *]) rfl ⟨A, c, B, d, rfl, ?_, ?_, ?_⟩
      · exact (((HOE.out.set_far (by simp; omega) _).set_far (by simp; omega) _).mono (by omega))
      · exact (((HDS.out.set_far (by simp) _).set_far (by simp) _).mono (by simp))
      · repeat' (first | (with_reducible exact Below.refl _ _) | (with_reducible (refine Below.setCell ?_ ?_ _)) | (with_reducible (refine Below.alloc ?_ ?_ _)) | (with_reducible (refine Below.drew ?_)) | (with_reducible (refine below_via ?_ HBW.out ?_)) | (with_reducible (refine below_via ?_ HA.out ?_)) | omega | (simp; done) | (simp; omega))

end Go.Proofs.Ytbaninglcafhhaa
