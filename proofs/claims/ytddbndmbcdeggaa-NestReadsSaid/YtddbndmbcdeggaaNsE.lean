/-
  The way through both stages: a leaf of stage 1. Conditions: the way's block reads as such; the descriptor's frame may be.
-/
import Derived.Test.YtddbndmbcdeggaaNsD
namespace Go.Proofs.Ytddbndmbcdeggaa
open Go Go.RowKit

theorem at_flat {α : Type} {f : α → List Value} {size : Nat} {t : TypeId} (W : World) (l : List α) (b : Nat) (cs : Array Value) (hf : ∀ a, (f a).length = size) (hb : b = W.heap.size) (hc : cs = (l.flatMap f).toArray) : At (W.alloc (.cells cs t)) (some ⟨b, 0, none⟩) size f l := by
  subst hb hc
  intro _
  refine ⟨_, 0, rfl, by simp, fun i hi j u hu => ?_⟩
  have hj : j < size := by rw [← hf l[i]]; exact (List.getElem?_eq_some_iff.1 hu).1
  rw [cell_of_row _ _ _ _ _ _ (heap_new W _), Nat.zero_add]
  have := flat_get f size hf l i j hi hj
  simp only [List.getElem?_toArray]
  rw [this]; exact hu

def deHt (d : De) : Ht := ⟨0, 0, d.r, d.w, d.x, d.af, d.ng, d.soft, 0⟩
def bothAt (d : De) (h : Ht) : Attr := both [⟨d.r, d.w, d.x, d.af, d.ng, d.soft⟩, ⟨h.r, h.w, h.x, h.af, h.ng, h.soft⟩]
def bothHt (d : De) (h : Ht) (level : Int) : Ht := ⟨h.frame, h.mid, (bothAt d h).r, (bothAt d h).w, (bothAt d h).x, (bothAt d h).af, (bothAt d h).ng, (bothAt d h).soft, level⟩
/-- What a leaf comes to, by stage 2's answer. -/
def leafIn (d : De) (level : Int) (f : Ft) (r : Ht × Ft × List Int) : Ht × Ft × List Int := if f.kind = 0 then (if r.2.1.kind = 0 then (bothHt d r.1 level, r.2.1, r.2.2) else (noHt, r.2.1, r.2.2)) else (noHt, f, [])
def leafTr (ws : List Int) (two : Rt) (page acc : Int) (d : De) (level : Int) : Ht × Ft × List Int := leafIn d level (flagFt (deHt d) acc 1 level page) (midRes ws two (d.frame + page % coversOf level) acc)

def WayF (g : Nat) (A : Option Addr) (n c : Nat) (two : Rt) (page acc : Int) (rd : List Int) (_ : Value) (w : World) : Prop := ∃ R cr, w.heap[g]? = some (.cells (nwayRow A n c two page acc R rd.length cr) nwayT (0, 0)) ∧ Own w (g + 1) intT 1 intCells rd R cr
def KeepF (W : World) (_ : Value) (w : World) : Prop := KeepT intT nwayT W w
def leafPs (W : World) (g : Nat) (A : Option Addr) (n c : Nat) (two : Rt) (page acc : Int) (rd rd2 : List Int) (hc fc dc : Array Value) (b4 : Nat) : List Gp :=
  [⟨none, some 14, none, NoW, WayF g A n c two page acc rd⟩, ⟨some 14, none, none, NoW, WayF g A n c two page acc rd2⟩, ⟨some 18, some 20, some 12, NoW, NewG W.heap.size hitT zHit⟩, ⟨some 19, some 21, some 13, NoW, NewG W.heap.size faultT zFault⟩,
    ⟨some 20, none, some 12, NoW, NewG W.heap.size hitT hc⟩, ⟨some 21, none, some 13, NoW, NewG W.heap.size faultT fc⟩, ⟨none, none, none, NoW, BlkG b4 descT dc⟩, ⟨none, none, none, NoW, BlkG (b4 + 1) hitT zHit⟩, ⟨none, none, none, NoW, BlkG (b4 + 2) faultT zFault⟩, ⟨none, none, none, NoW, KeepF W⟩]
section
variable {W : World} {g : Nat} {A : Option Addr} {n c : Nat} {two : Rt} {page acc : Int} {rd rd2 : List Int} {hc fc dc : Array Value} {b4 : Nat}
theorem WayF.keep {v : Value} {w w' : World} (h : WayF g A n c two page acc rd v w) (hb : Below w.heap.size w w') : WayF g A n c two page acc rd v w' := by
  obtain ⟨R, cr, h1, h2⟩ := h
  exact ⟨R, cr, (hb.block g (heap_lt h1)).trans h1, h2.below hb (Nat.le_refl _)⟩
theorem WayF.stab {T : TypeId} (h1 : intT ≠ T) (h2 : nwayT ≠ T) : Stab T (WayF g A n c two page acc rd) := fun v w w' x cs h hx hk _ => by
  obtain ⟨R, cr, h3, h4⟩ := h
  exact ⟨R, cr, (hk g (blk_ne hx h3 h2)).trans h3, h4.stab hx h1 hk⟩
theorem KeepF.keep {v : Value} {w w' : World} (h : KeepF W v w) (hb : Below w.heap.size w w') : KeepF W v w' := KeepT.trans h (.of_below hb)
theorem KeepF.stabC : StabC intT nwayT (KeepF W) := fun _ _ _ h k => KeepT.trans h k
theorem KeepF.stabLo {T : TypeId} : StabLo T W.heap.size (KeepF W) := fun _ w w' x _ h h1 _ h4 h5 => ⟨Nat.le_trans h.1 h5, fun b cs T hb n1 n2 => (h4 b (by have := heap_lt hb; omega)).trans (h.2 b cs T hb n1 n2)⟩
theorem stays_leaf : StaysG (leafPs W g A n c two page acc rd rd2 hc fc dc b4) :=
  staysG_cons (fun v _ _ h hb => WayF.keep (v := v) h hb) (staysG_cons (fun v _ _ h hb => WayF.keep (v := v) h hb) (staysG_cons (fun _ _ _ h hb => NewG.keep h hb) (staysG_cons (fun _ _ _ h hb => NewG.keep h hb) (staysG_cons (fun _ _ _ h hb => NewG.keep h hb) (staysG_cons (fun _ _ _ h hb => NewG.keep h hb)
    (staysG_cons (fun _ _ _ h hb => BlkG.keep (v := undef) h hb) (staysG_cons (fun _ _ _ h hb => BlkG.keep (v := undef) h hb) (staysG_cons (fun _ _ _ h hb => BlkG.keep (v := undef) h hb) (staysG_cons (fun v _ _ h hb => KeepF.keep (v := v) h hb) staysG_nil)))))))))
theorem stabC_leaf : StabCFrom intT nwayT 14 1 0 (leafPs W g A n c two page acc rd rd2 hc fc dc b4) :=
  stabC_cons (.inr (.inl rfl)) (stabC_cons (.inl rfl) (stabC_cons (.inr (.inr (NewG.stabC (by decide) (by decide)))) (stabC_cons (.inr (.inr (NewG.stabC (by decide) (by decide)))) (stabC_cons (.inr (.inr (NewG.stabC (by decide) (by decide)))) (stabC_cons (.inr (.inr (NewG.stabC (by decide) (by decide))))
    (stabC_cons (.inr (.inr (BlkG.stabC (by decide) (by decide)))) (stabC_cons (.inr (.inr (BlkG.stabC (by decide) (by decide)))) (stabC_cons (.inr (.inr (BlkG.stabC (by decide) (by decide)))) (stabC_cons (.inr (.inr KeepF.stabC)) stabC_nil)))))))))
theorem stabLo_leaf1 (h : b4 + 2 < W.heap.size) : StabLoFrom hitT W.heap.size 20 4 0 (leafPs W g A n c two page acc rd rd2 hc fc dc b4) :=
  stabLo_cons (.inr (.inr (WayF.stab (by decide) (by decide)).lo)) (stabLo_cons (.inr (.inr (WayF.stab (by decide) (by decide)).lo)) (stabLo_cons (.inr (.inl rfl)) (stabLo_cons (.inr (.inr (NewG.stab (by decide)).lo)) (stabLo_cons (.inl rfl) (stabLo_cons (.inr (.inr (NewG.stab (by decide)).lo))
    (stabLo_cons (.inr (.inr (BlkG.stabLo (by omega)))) (stabLo_cons (.inr (.inr (BlkG.stabLo (by omega)))) (stabLo_cons (.inr (.inr (BlkG.stabLo (by omega)))) (stabLo_cons (.inr (.inr KeepF.stabLo)) stabLo_nil)))))))))
theorem stabLo_leaf2 (h : b4 + 2 < W.heap.size) : StabLoFrom faultT W.heap.size 21 5 0 (leafPs W g A n c two page acc rd rd2 hc fc dc b4) :=
  stabLo_cons (.inr (.inr (WayF.stab (by decide) (by decide)).lo)) (stabLo_cons (.inr (.inr (WayF.stab (by decide) (by decide)).lo)) (stabLo_cons (.inr (.inr (NewG.stab (by decide)).lo)) (stabLo_cons (.inr (.inl rfl)) (stabLo_cons (.inr (.inr (NewG.stab (by decide)).lo)) (stabLo_cons (.inl rfl)
    (stabLo_cons (.inr (.inr (BlkG.stabLo (by omega)))) (stabLo_cons (.inr (.inr (BlkG.stabLo (by omega)))) (stabLo_cons (.inr (.inr (BlkG.stabLo (by omega)))) (stabLo_cons (.inr (.inr KeepF.stabLo)) stabLo_nil)))))))))
theorem start_leaf (h0 : WayF g A n c two page acc rd undef W) (h1 : W.heap[b4]? = some (.cells dc descT (0, 0))) (h2 : W.heap[b4 + 1]? = some (.cells zHit hitT (0, 0))) (h3 : W.heap[b4 + 2]? = some (.cells zFault faultT (0, 0))) :
    ∀ p ∈ leafPs W g A n c two page acc rd rd2 hc fc dc b4, p.on = none → p.slot = none ∧ p.V undef ∧ p.F undef W.drew := by
  intro p hp hn
  simp only [leafPs, List.mem_cons, List.not_mem_nil, or_false] at hp
  rcases hp with rfl | rfl | rfl | rfl | rfl | rfl | rfl | rfl | rfl | rfl
  · exact ⟨rfl, trivial, h0⟩
  · cases hn
  · cases hn
  · cases hn
  · cases hn
  · cases hn
  · exact ⟨rfl, trivial, h1⟩
  · exact ⟨rfl, trivial, h2⟩
  · exact ⟨rfl, trivial, h3⟩
  · exact ⟨rfl, trivial, ⟨Nat.le_refl _, fun _ _ _ h _ _ => h⟩⟩
end

theorem bothAt_eq (d : De) (h : Ht) : both [⟨d.r, d.w, d.x, d.af, d.ng, d.soft⟩, ⟨h.r, h.w, h.x, h.af, h.ng, h.soft⟩] = bothAt d h := rfl
theorem attr_len (a : Attr) : a.cells.length = 6 := rfl

set_option maxRecDepth 100000 in
set_option maxHeartbeats 16000000 in
theorem nLeaf_any (g : Nat) (A : Option Addr) (c : Nat) (ws : List Int) (two : Rt) (page acc : Int) (rd0 : List Int) (R0 : Option Addr) (c0 : Nat) (d : De) (level : Int) (w0 w : World) (hA : MeAt w0 A c ws) (h0g : w0.heap.size ≤ g) (hb0 : Below w0.heap.size w0 w) (hl0 : rd0.length ≤ 100)
    (hg : w.heap[g]? = some (.cells (nwayRow A ws.length c two page acc R0 rd0.length c0) nwayT (0, 0))) (ho : Own w (g + 1) intT 1 intCells rd0 R0 c0)
    (ha : accOk acc = true) (h0 : 0 ≤ level) (h1 : level ≤ 3) (hp0 : 0 ≤ page) (hp1 : page ≤ 4095) (hd0 : 0 ≤ d.frame) (hd1 : d.frame ≤ 4095) :
    Calls Try.prog 73 #[.pointer (some ⟨g, 0, none⟩), .agg d.cells.toArray, .int .i64 level] w (WayPost g A ws.length c two page acc w (leafTr ws two page acc d level).1 (leafTr ws two page acc d level).2.1 (rd0 ++ (leafTr ws two page acc d level).2.2)) := by
  have HG := Lib.hid hg
  have HO := Lib.hid ho
  have hgl := heap_lt hg
  have hsz0 := hb0.size
  have HFL := Lib.hid (fun W => flag_any d.r d.w d.x d.af d.ng d.soft acc 1 level page W)
  simp only [ha, if_true] at HFL
  rw [show formIf true = 0 by rfl] at HFL
  have hfc := flagFt_cells (deHt d) acc 1 level page
  dsimp only [deHt] at hfc
  rw [hfc] at HFL
  have HMI := Lib.hid (fun R cr W (hb : Below g w W) (h1 : W.heap[g]? = _) (h2 : Own W (g + 1) intT 1 intCells rd0 R cr) => nMid_any g A c ws two page acc rd0 R cr (d.frame + page % coversOf level) acc w0 W hA h0g (hb0.trans (hb.mono h0g)) hl0 h1 h2)
  obtain ⟨res, hres⟩ : ∃ r, leafTr ws two page acc d level = r := ⟨_, rfl⟩
  have hr2 := hres
  unfold leafTr at hr2
  rw [hres]
  clear hA hb0 hg ho ha hfc hres
  have hff : flagFt ⟨0, 0, d.r, d.w, d.x, d.af, d.ng, d.soft, 0⟩ acc 1 level page = flagFt (deHt d) acc 1 level page := rfl
  rw [hff] at HFL
  clear hff
  obtain ⟨ff, hff⟩ : ∃ x, flagFt (deHt d) acc 1 level page = x := ⟨_, rfl⟩
  rw [hff] at HFL hr2
  clear hff
  have HCV := Lib.hid (fun W => covers_any level W)
  have hlev : numOk level 3 = true := by unfold numOk; simp; omega
  simp only [hlev, if_true] at HCV
  have hcv0 : 0 < coversOf level := covers_pos _
  generalize coversOf level = cv at *
  have hcv2 : ¬ cv = 0 := by omega
  have hcv3 : (cv == 0) = false := by simpa using hcv2
  have hmod : page.tmod cv = page % cv := Int.tmod_eq_emod_of_nonneg hp0
  have hm0 : 0 ≤ page % cv := Int.emod_nonneg _ (by omega)
  have hm1 : page % cv ≤ page := emod_le hp0 hcv0
  obtain ⟨pm, hpm⟩ : ∃ x, page % cv = x := ⟨_, rfl⟩
  rw [hpm] at hmod hm0 hm1 hr2 HMI
  clear hpm hlev
  have hw1 : IntKind.i64.wrap pm = pm := IntWalk.i64_in _ (by omega)
  have hw2 : IntKind.i64.wrap (d.frame + pm) = d.frame + pm := IntWalk.i64_in _ (by omega)
  generalize midRes ws two (d.frame + pm) acc = mr at *
  have HBT := Lib.hid (fun (L : Option Addr) W (hL : At W L 6 Attr.cells [⟨d.r, d.w, d.x, d.af, d.ng, d.soft⟩, ⟨mr.1.r, mr.1.w, mr.1.x, mr.1.af, mr.1.ng, mr.1.soft⟩]) => both_any L 2 _ W (by simp) hL)
  rw [bothAt_eq] at HBT
  unfold leafIn bothHt at hr2
  obtain ⟨bb, hbb⟩ : ∃ x, bothAt d mr.1 = x := ⟨_, rfl⟩
  rw [hbb] at HBT hr2
  have HR2 := Lib.hid hr2
  clear hbb hr2
  obtain ⟨⟨l0, l1, l2, l3, l4, l5, l6, l7, l8⟩, ⟨m0, m1, m2, m3, m4⟩, rd⟩ := mr
  obtain ⟨f0, f1, f2, f3, f4⟩ := ff
  obtain ⟨b0, b1, b2, b3, b4, b5⟩ := bb
  obtain ⟨dk, df, dr, dw, dx, daf, dng, dso, dno⟩ := d
  unfold WayPost at HMI
  dsimp only [De.cells, Ht.cells, Ft.cells, Attr.cells] at *
  obtain ⟨n, hn⟩ : ∃ n, ws.length = n := ⟨_, rfl⟩
  rw [hn] at HG HMI ⊢
  clear hn
  obtain ⟨on, tf, tg⟩ := two
  go_enter Try.func73, Try.ntmps73
  go_upto_region 1 with fail
  refine name_world ?_
  intro w1 hw1'
  have H4 := Lib.hid (show w1.heap[w.heap.size]? = some (.cells #[.int .i64 dk, .int .i64 df, .bool dr, .bool dw, .bool dx, .bool daf, .bool dng, .int .i64 dso, .int .i64 dno] descT (0, 0)) by rw [hw1']; exact (by repeat (first | (with_reducible assumption) | (exact heap_at _ _ (by simp; done)) | (with_reducible refine heap_old_is _ _ (by (first | omega | (simp; done) | (simp; omega))) ?_) | (with_reducible refine heap_far_is (by (first | omega | (simp; done) | (simp; omega))) ?_))))
  have H6 := Lib.hid (show w1.heap[w.heap.size + 1]? = some (.cells zHit hitT (0, 0)) by rw [hw1']; exact (by repeat (first | (with_reducible assumption) | (exact heap_at _ _ (by simp; done)) | (with_reducible refine heap_old_is _ _ (by (first | omega | (simp; done) | (simp; omega))) ?_) | (with_reducible refine heap_far_is (by (first | omega | (simp; done) | (simp; omega))) ?_))))
  have H7 := Lib.hid (show w1.heap[w.heap.size + 2]? = some (.cells zFault faultT (0, 0)) by rw [hw1']; exact (by repeat (first | (with_reducible assumption) | (exact heap_at _ _ (by simp; done)) | (with_reducible refine heap_old_is _ _ (by (first | omega | (simp; done) | (simp; omega))) ?_) | (with_reducible refine heap_far_is (by (first | omega | (simp; done) | (simp; omega))) ?_))))
  have HG1 := Lib.hid (show w1.heap[g]? = some (.cells (nwayRow A n c ⟨on, tf, tg⟩ page acc R0 rd0.length c0) nwayT (0, 0)) by rw [hw1']; exact (by repeat (first | (with_reducible assumption) | (with_reducible exact HG.out) | (exact heap_at _ _ (by simp; done)) | (with_reducible refine heap_old_is _ _ (by (first | omega | (simp; done) | (simp; omega))) ?_) | (with_reducible refine heap_far_is (by (first | omega | (simp; done) | (simp; omega))) ?_))))
  have HO1 := Lib.hid (show Own w1 (g + 1) intT 1 intCells rd0 R0 c0 by rw [hw1']; exact (by repeat (first | (with_reducible exact Own.mono HO.out (by (first | omega | (simp; done) | (simp; omega)))) | (with_reducible refine Own.set_far ?_ (by (first | omega | (simp; done) | (simp; omega))) _) | (with_reducible refine Own.alloc ?_ _) | (with_reducible refine Own.drew ?_))))
  have HB1 := Lib.hid (show Below w.heap.size w w1 by rw [hw1']; repeat' (first | (with_reducible exact Below.refl _ _) | (with_reducible (refine Below.setCell ?_ ?_ _)) | (with_reducible (refine Below.alloc ?_ ?_ _)) | (with_reducible (refine Below.drew ?_)) | omega | (simp; done) | (simp; omega)))
  have hs1 : w.heap.size + 3 ≤ w1.heap.size := by rw [hw1']; simp
  clear hw1'
  have x4 := fun j => cell_of_row _ _ j _ _ _ H4.out
  have xf4 := fun j => frozen_of_row _ _ j _ _ H4.out
  have y4 := cell_of_row _ _ 4 _ _ _ HG1.out
  have y5 := cell_of_row _ _ 5 _ _ _ HG1.out
  have yf := fun j => frozen_of_row _ _ j _ _ HG1.out
  simp only [nwayRow] at y4 y5
  have hg1l := heap_lt HG1.out
  have hl4 := heap_lt H4.out
 
  refine wp_region_lex [8] (BoxC (w1) 8 15 16 (faultT) (#[.int .i64 0, .int .i64 0, .int .i64 0, .bool false, .int .i64 0]) (#[.int .i64 f0, .int .i64 f1, .int .i64 f2, .bool f3, .int .i64 f4])) boxC_looks (by kernel_rfl) (by kernel_rfl) (by kernel_rfl) (boxC_start _) ?_
  repeat (first
    | (refine wpLex_pass (by rfl) (passes_box (by decide) (by rfl) (by rfl)) ?_; (conv => arg 9; simp only [put_lit, put_lit_none, List.set]))
    | (refine wpLex_box (by rfl) (by rfl) (by decide) (by rfl) (by rfl) ?_
       apply Exists.intro
       refine ⟨?_, ?_⟩
       · intro w' hb
         have hsz := hb.size
         try simp at hsz
         have hcw := fun b o (h : b < (w1).heap.size) => hb.cell (p := ⟨b, o, none⟩) h
         have hfw := fun b o (h : b < (w1).heap.size) => hb.frozen (p := ⟨b, o, none⟩) h
         go_simp
         first
           | exact ⟨rfl, Below.refl _ _⟩
           | exact Below.refl _ _
           | ((with_reducible refine Calls.mono (HFL.out _) ?_); rintro e w2 ⟨rfl, hb2⟩; first | exact ⟨_, rfl, rfl, hb2⟩ | exact ⟨rfl, hb2⟩)
       conv => arg 9; simp only [put_lit, put_lit_none, List.set])
    | (refine wpLex_want undef (by rfl) (comes_alloc rfl rfl (by simp) (by kernel_rfl) rfl (fun w => by go_simp; rfl)) ?_; (conv => arg 9; simp only [put_lit, put_lit_none, List.set]))
    | (refine wpLex_want undef (by rfl) (comes_store rfl (by kernel_rfl) ?_) ?_
       · intro g w' hg hz
         have hzc := fun j => cell_of_row _ _ j _ _ _ hz
         have hzf := fun j => frozen_of_row _ _ j _ _ hz
         simp only [put_lit, List.set]
         go_simp
         exact ⟨(by repeat' (first | (with_reducible exact Below.refl _ _) | (with_reducible (refine Below.setCell ?_ ?_ _)) | omega | (simp; done))), (by simp [World.setCell, Array.getElem?_modify, hz])⟩
       conv => arg 9; simp only [put_lit, put_lit_none, List.set]))
  refine wpLex_nil ?_
  intro wq bq dq hdq hCq hoq
  obtain ⟨gq, rfl, hgq, hxq, hbq⟩ := boxC_end hCq (hdq 15 (by decide)) (hdq 16 (by decide)) hoq
  clear hCq hdq hoq
  simp only [put_lit, List.set]
  have hsq := hbq.size
  try simp at hsq hgq
  have hlq := heap_lt hxq
  have hcq := fun b o (h : b < (w1).heap.size) => hbq.cell (p := ⟨b, o, none⟩) h
  have hfq := fun b o (h : b < (w1).heap.size) => hbq.frozen (p := ⟨b, o, none⟩) h
  have HBq := Lib.hid hbq
  have HXq := Lib.hid hxq
  clear hbq hxq
 
  have Q4 := Lib.hid ((HBq.out.block _ hl4).trans H4.out)
  have Q6 := Lib.hid ((HBq.out.block _ (by omega)).trans H6.out)
  have Q7 := Lib.hid ((HBq.out.block _ (by omega)).trans H7.out)
  have QG := Lib.hid ((HBq.out.block _ hg1l).trans HG1.out)
  have QO := Lib.hid (HO1.out.below HBq.out (Nat.le_refl _))
  have QB := Lib.hid (show Below w.heap.size w wq from (by repeat' (first | (with_reducible exact Below.refl _ _) | (with_reducible (refine Below.setCell ?_ ?_ _)) | (with_reducible (refine Below.alloc ?_ ?_ _)) | (with_reducible (refine Below.drew ?_)) | (with_reducible (refine below_via ?_ HBq.out ?_)) | (with_reducible (refine below_via ?_ HB1.out ?_)) | omega | (simp; done) | (simp; omega))))
  clear x4 xf4 y4 y5 yf hcq hfq
  have q8 := fun j => cell_of_row _ _ j _ _ _ HXq.out
  have qf8 := fun j => frozen_of_row _ _ j _ _ HXq.out
  have hgq2 := hgq
  by_cases hf0 : f0 = 0
  · subst hf0
   
    have hr3 := HR2.out
    rw [if_pos rfl] at hr3
    have HR3 := Lib.hid hr3
    clear hr3 HR2
    obtain ⟨rd2, hrd2⟩ : ∃ x, x = rd0 ++ rd := ⟨_, rfl⟩
    have HRD := Lib.hid hrd2
    clear hrd2
    go_wp2_with fail
    refine Calls.mono (HCV.out _) ?_
    rintro e w3 ⟨rfl, hb3⟩
    have hs3 := hb3.size
    try simp at hs3
    have HB3 := Lib.hid hb3
    clear hb3
    have E4 := Lib.hid ((HB3.out.block _ (by omega)).trans Q4.out)
    have E6 := Lib.hid ((HB3.out.block _ (by omega)).trans Q6.out)
    have E7 := Lib.hid ((HB3.out.block _ (by omega)).trans Q7.out)
    have EG := Lib.hid ((HB3.out.block _ (heap_lt QG.out)).trans QG.out)
    have EO := Lib.hid (QO.out.below HB3.out (Nat.le_refl _))
    have EB := Lib.hid (below_via QB.out HB3.out QB.out.size)
    clear q8 qf8
    have hb42 : w.heap.size + 2 < w3.heap.size := by omega
    have hgw3 : g < w3.heap.size := by omega
    go_upto_region 5 with fail
   
    refine wp_region_lex [12, 13] (GenC g w3 (leafPs w3 g A n c ⟨on, tf, tg⟩ page acc rd0 rd2 #[.int .i64 l0, .int .i64 l1, .bool l2, .bool l3, .bool l4, .bool l5, .bool l6, .int .i64 l7, .int .i64 l8] #[.int .i64 m0, .int .i64 m1, .int .i64 m2, .bool m3, .int .i64 m4] #[.int .i64 dk, .int .i64 df, .bool dr, .bool dw, .bool dx, .bool daf, .bool dng, .int .i64 dso, .int .i64 dno] w.heap.size)) (genC_looks (by rfl)) (by kernel_rfl) (by kernel_rfl) (by kernel_rfl) (genC_start _ (start_leaf ⟨R0, c0, EG.out, EO.out⟩ E4.out E6.out E7.out)) ?_
    repeat (first
      | (refine wpLex_pass (by rfl) (passes_gen stays_leaf (by rfl)) ?_; (conv => arg 9; simp only [put_lit, put_lit_none, List.set]))
      | (refine wpLex_genCall intT nwayT 1 _ [0] rfl (by rfl) (by rfl) (by rfl) (by rfl) (by rfl) (by rfl) stabC_leaf ?_
         apply Exists.intro
         refine ⟨?_, ?_⟩
         · intro u w' hb hk
           obtain ⟨R, cr, hwg, hwo⟩ := (hk 0 (by simp) _ rfl).2
           have HMW := Lib.hid (HMI.out R cr w' ((EB.out.mono (Nat.le_of_lt hgl)).trans hb) hwg hwo)
           clear hk hwg hwo
           try simp only [putS, List.foldl, put_lit, List.set]
           go_simp
           refine Calls.mono HMW.out ?_
           rintro e w2 ⟨R2, cr2, rfl, hg2, ho2, hb2, hk2⟩
           exact ⟨_, rfl, callOk trivial ⟨R2, cr2, by rw [HRD.out]; exact hg2, by rw [HRD.out]; exact ho2⟩ (hb.trans hb2) hk2⟩
         (conv => arg 9; simp only [put_lit, put_lit_none, List.set]))
      | (refine wpLex_genMake 2 _ 12 [] (Nat.le_of_lt hgw3) stays_leaf rfl (by rfl) (by rfl) (by rfl) (by rfl) (by rfl) (by rfl) (by rfl) (by rfl) ?_ ?_
         · intro u w' hb hk
           try simp only [putS, List.foldl, put_lit, List.set]
           have hsz := hb.size
           go_simp
           exact makeOk trivial ⟨_, rfl, hsz, heap_new _ _⟩ ((Below.refl _ _).alloc (Nat.le_refl _) _)
         (conv => arg 9; simp only [put_lit, put_lit_none, List.set]))
      | (refine wpLex_genMake 3 _ 13 [] (Nat.le_of_lt hgw3) stays_leaf rfl (by rfl) (by rfl) (by rfl) (by rfl) (by rfl) (by rfl) (by rfl) (by rfl) ?_ ?_
         · intro u w' hb hk
           try simp only [putS, List.foldl, put_lit, List.set]
           have hsz := hb.size
           go_simp
           exact makeOk trivial ⟨_, rfl, hsz, heap_new _ _⟩ ((Below.refl _ _).alloc (Nat.le_refl _) _)
         (conv => arg 9; simp only [put_lit, put_lit_none, List.set]))
      | (refine wpLex_genStoreLo hitT w3.heap.size 4 _ [2] rfl (by rfl) (by rfl) (by rfl) (by rfl) (by rfl) (by rfl) (stabLo_leaf1 hb42) ?_ ?_
         · intro u w' hb hk
           obtain ⟨g2, e0, hlo, hz⟩ := (hk 2 (by simp) _ rfl).2
           have e0' : u 12 = _ := e0
           try simp only [putS, List.foldl, put_lit, List.set]
           rw [e0']
           have hzc := fun j => cell_of_row _ _ j _ _ _ hz
           have hzf := fun j => frozen_of_row _ _ j _ _ hz
           simp only [zHit] at hzc
           go_simp
           exact storeLo trivial ⟨g2, e0, hlo, by simp [World.setCell, Array.getElem?_modify, hz, zHit]⟩ (by repeat' (first | (with_reducible exact hb) | (with_reducible (refine Below.setCell ?_ ?_ _)) | (dsimp only; omega))) (by simp) g2 hlo hz (fun x hx => by repeat (rw [heap_set_other (by exact hx)])))
      | (refine wpLex_genStoreLo faultT w3.heap.size 5 _ [3] rfl (by rfl) (by rfl) (by rfl) (by rfl) (by rfl) (by rfl) (stabLo_leaf2 hb42) ?_ ?_
         · intro u w' hb hk
           obtain ⟨g2, e0, hlo, hz⟩ := (hk 3 (by simp) _ rfl).2
           have e0' : u 13 = _ := e0
           try simp only [putS, List.foldl, put_lit, List.set]
           rw [e0']
           have hzc := fun j => cell_of_row _ _ j _ _ _ hz
           have hzf := fun j => frozen_of_row _ _ j _ _ hz
           simp only [zFault] at hzc
           go_simp
           exact storeLo trivial ⟨g2, e0, hlo, by simp [World.setCell, Array.getElem?_modify, hz, zFault]⟩ (by repeat' (first | (with_reducible exact hb) | (with_reducible (refine Below.setCell ?_ ?_ _)) | (dsimp only; omega))) (by simp) g2 hlo hz (fun x hx => by repeat (rw [heap_set_other (by exact hx)])))
      | (refine wpLex_genUse [6] (Nat.le_of_lt hgw3) stays_leaf (by rfl) (by rfl) (by rfl) ?_
         apply Exists.intro
         refine ⟨?_, ?_⟩
         · intro u w' hb hk
           have hz : w'.heap[w.heap.size]? = some (.cells #[.int .i64 dk, .int .i64 df, .bool dr, .bool dw, .bool dx, .bool daf, .bool dng, .int .i64 dso, .int .i64 dno] descT (0, 0)) := (hk 6 (by simp) _ rfl).2
           have hzc := fun j => cell_of_row _ _ j _ _ _ hz
           have hzf := fun j => frozen_of_row _ _ j _ _ hz
           clear hz hk
           try simp only [putS, List.foldl, put_lit, List.set]
           go_simp
           first
             | exact ⟨rfl, Below.refl _ _⟩
             | exact Below.refl _ _
             | exact rfl
         (conv => arg 9; simp only [put_lit, put_lit_none, List.set]))
      | (refine wpLex_genUseN [0] (Nat.le_of_lt hgw3) stays_leaf (by rfl) (by rfl) (by rfl) ?_
         apply Exists.intro
         refine ⟨?_, ?_⟩
         · intro u w' hb hk
           obtain ⟨R, cr, hwg, hwo⟩ := (hk 0 (by simp) _ rfl).2
           have z4 := cell_of_row _ _ 4 _ _ _ hwg
           have z5 := cell_of_row _ _ 5 _ _ _ hwg
           have hzf := fun j => frozen_of_row _ _ j _ _ hwg
           simp only [nwayRow] at z4 z5
           clear hwg hwo hk
           try simp only [putS, List.foldl, put_lit, List.set]
           go_simp
           first
             | exact ⟨rfl, Below.refl _ _⟩
             | exact Below.refl _ _
         (conv => arg 9; simp only [put_lit, put_lit_none, List.set])))
    refine wpLex_nil ?_
    intro wv bv dv hdv hCv hov
   
    obtain ⟨uv, rfl, hbv, hkv⟩ := genC_end hCv hdv hov
    clear hCv hov hdv dv
    simp only [putS, List.foldl, put_lit, List.set]
    obtain ⟨R2, cr2, hg2, ho2⟩ := (hkv 1 _ rfl (by rfl) rfl).2
    obtain ⟨gh, eh, hgh, hx⟩ := (hkv 4 _ rfl (by rfl) rfl).2
    obtain ⟨gf, ef, hgf, hy⟩ := (hkv 5 _ rfl (by rfl) rfl).2
    have h4 : wv.heap[w.heap.size]? = some (.cells #[.int .i64 dk, .int .i64 df, .bool dr, .bool dw, .bool dx, .bool daf, .bool dng, .int .i64 dso, .int .i64 dno] descT (0, 0)) := (hkv 6 _ rfl (by rfl) rfl).2
    have h6 : wv.heap[w.heap.size + 1]? = some (.cells zHit hitT (0, 0)) := (hkv 7 _ rfl (by rfl) rfl).2
    have h7 : wv.heap[w.heap.size + 2]? = some (.cells zFault faultT (0, 0)) := (hkv 8 _ rfl (by rfl) rfl).2
    have hkp : KeepT intT nwayT w3 wv := (hkv 9 _ rfl (by rfl) rfl).2
    have eh' : uv 12 = _ := eh
    have ef' : uv 13 = _ := ef
    rw [eh', ef']
    clear hkv eh ef eh' ef' uv
    have VG := Lib.hid hg2
    have VO := Lib.hid ho2
    have VX := Lib.hid hx
    have VY := Lib.hid hy
    have V4 := Lib.hid h4
    have V6 := Lib.hid h6
    have V7 := Lib.hid h7
    have VK := Lib.hid (show KeepT intT nwayT w wv from (KeepT.of_below EB.out).trans hkp)
    have VB := Lib.hid (show Below g w wv from (EB.out.mono (Nat.le_of_lt hgl)).trans hbv)
    have hsv := hkp.1
    clear hg2 ho2 hx hy h4 h6 h7 hkp hbv EG EO E4 E6 E7
    have y12 := fun j => cell_of_row _ _ j _ _ _ VX.out
    have y13 := fun j => cell_of_row _ _ j _ _ _ VY.out
    have yf12 := fun j => frozen_of_row _ _ j _ _ VX.out
    have yf13 := fun j => frozen_of_row _ _ j _ _ VY.out
    have hghv := heap_lt VX.out
    have hgfv := heap_lt VY.out
    have hgfh : gf ≠ gh := blk_ne VX.out VY.out (by decide)
    have hggh : gh ≠ g := by omega
    have hggf : gf ≠ g := by omega
    have VRN := Lib.hid (show ∀ p : Addr, R2 = some p → p.block ≠ w.heap.size + 1 ∧ p.block ≠ w.heap.size + 2 ∧ p.block ≠ gh from fun p hp => ⟨Own.blk_off VO.out V6.out (by decide) p hp, Own.blk_off VO.out V7.out (by decide) p hp, Own.blk_off VO.out VX.out (by decide) p hp⟩)
    by_cases hm0 : m0 = 0
    · subst hm0
      have hr4 := HR3.out
      try dsimp only at hr4
      rw [if_pos rfl] at hr4
      obtain rfl : res = _ := hr4.symm
      have z4 := fun j => cell_of_row _ _ j _ _ _ V4.out
      have zf4 := fun j => frozen_of_row _ _ j _ _ V4.out
      have hl4v := heap_lt V4.out
     
      go_wp2_with fail
      refine Calls.mono (HBT.out _ _ (by exact at_flat _ _ _ _ attr_len (by simp) rfl)) ?_
      rintro e w6 ⟨rfl, hb6⟩
      have hs6 := hb6.size
      try simp at hs6
      have HB6 := Lib.hid hb6
      clear hb6
      have S12 := Lib.hid ((HB6.out.block _ (by simp; omega)).trans ((heap_old _ _ hghv).trans VX.out))
      have S13 := Lib.hid ((HB6.out.block _ (by simp; omega)).trans ((heap_old _ _ hgfv).trans VY.out))
      have S6 := Lib.hid ((HB6.out.block _ (by simp; omega)).trans ((heap_old _ _ (by omega)).trans V6.out))
      have S7 := Lib.hid ((HB6.out.block _ (by simp; omega)).trans ((heap_old _ _ (by omega)).trans V7.out))
      have SG := Lib.hid ((HB6.out.block _ (by simp; omega)).trans ((heap_old _ _ (heap_lt VG.out)).trans VG.out))
      have SB := Lib.hid (show Below wv.heap.size wv w6 from (by repeat' (first | (with_reducible exact Below.refl _ _) | (with_reducible (refine Below.setCell ?_ ?_ _)) | (with_reducible (refine Below.alloc ?_ ?_ _)) | (with_reducible (refine Below.drew ?_)) | (with_reducible (refine below_via ?_ HB6.out ?_)) | omega | (simp; done) | (simp; omega))))
      have SO := Lib.hid (VO.out.below SB.out (Nat.le_refl _))
      clear y12 y13 yf12 yf13 z4 zf4
      have y12 := fun j => cell_of_row _ _ j _ _ _ S12.out
      have yf12 := fun j => frozen_of_row _ _ j _ _ S12.out
      have hgh6 := heap_lt S12.out
      go_upto_region 9 with fail
      refine name_world ?_
      intro w7 hw7
      have K12 := Lib.hid (show w7.heap[gh]? = some (.cells #[.int .i64 l0, .int .i64 l1, .bool b0, .bool b1, .bool b2, .bool b3, .bool b4, .int .i64 b5, .int .i64 level] hitT (0, 0)) by rw [hw7]; simp [World.setCell, Array.getElem?_modify, S12.out])
      have K13 := Lib.hid (show w7.heap[gf]? = some (.cells #[.int .i64 0, .int .i64 m1, .int .i64 m2, .bool m3, .int .i64 m4] faultT (0, 0)) by rw [hw7]; exact (by repeat (first | (with_reducible exact S13.out) | (with_reducible refine heap_far_is (by (first | (dsimp only; omega) | omega | (simp; done) | (simp; omega))) ?_))))
      have K6 := Lib.hid (show w7.heap[w.heap.size + 1]? = some (.cells zHit hitT (0, 0)) by rw [hw7]; exact (by repeat (first | (with_reducible exact S6.out) | (with_reducible refine heap_far_is (by (first | (dsimp only; omega) | omega | (simp; done) | (simp; omega))) ?_))))
      have K7 := Lib.hid (show w7.heap[w.heap.size + 2]? = some (.cells zFault faultT (0, 0)) by rw [hw7]; exact (by repeat (first | (with_reducible exact S7.out) | (with_reducible refine heap_far_is (by (first | (dsimp only; omega) | omega | (simp; done) | (simp; omega))) ?_))))
      have KG := Lib.hid (show w7.heap[g]? = some (.cells (nwayRow A n c ⟨on, tf, tg⟩ page acc R2 rd2.length cr2) nwayT (0, 0)) by rw [hw7]; exact (by repeat (first | (with_reducible exact SG.out) | (with_reducible refine heap_far_is (by (first | (dsimp only; omega) | omega | (simp; done) | (simp; omega))) ?_))))
      have KKP := Lib.hid (show ∀ b, b < w6.heap.size → b ≠ gh → w7.heap[b]? = w6.heap[b]? from fun b _ hne => by rw [hw7]; exact (by repeat (first | (with_reducible exact rfl) | (with_reducible refine heap_far_is (by (first | (dsimp only; omega) | omega | (simp; done) | (simp; omega))) ?_))))
      have KO := Lib.hid (show Own w7 (g + 1) intT 1 intCells rd2 R2 cr2 from SO.out.keep2 fun p hp => KKP.out p.block (SO.out.block_ hp).2 (VRN.out p hp).2.2)
      have SBG := Lib.hid (VB.out.trans (SB.out.mono (by omega)))
      have KB := Lib.hid (show Below g w w7 by rw [hw7]; exact (by repeat' (first | (with_reducible exact SBG.out) | (with_reducible refine Below.setCell ?_ ?_ _) | (first | (dsimp only; omega) | omega | (simp; done) | (simp; omega)))))
      have h7s : w6.heap.size ≤ w7.heap.size := by rw [hw7]; simp
      clear hw7 y12 yf12
      have k12l := heap_lt K12.out
      have k13l := heap_lt K13.out
     
      refine wp_region_done (fun d w9 => Put2C (w7) 2 (w.heap.size + 1) (hitT) (#[.int .i64 0, .int .i64 0, .bool false, .bool false, .bool false, .bool false, .bool false, .int .i64 0, .int .i64 0]) (#[.int .i64 l0, .int .i64 l1, .bool b0, .bool b1, .bool b2, .bool b3, .bool b4, .int .i64 b5, .int .i64 level]) 3 (w.heap.size + 2) (faultT) (#[.int .i64 0, .int .i64 0, .int .i64 0, .bool false, .int .i64 0]) (#[.int .i64 0, .int .i64 m1, .int .i64 m2, .bool m3, .int .i64 m4]) d w9) (by kernel_rfl) (by kernel_rfl) (put2_start (K6.out) (K7.out)) ?_
      repeat (first
        | (refine wpLex_pass (by rfl) (passes_put2 (by rfl) (by rfl)) ?_; (conv => arg 9; simp only [put_lit, put_lit_none, List.set]))
        | (refine wpLex_put2 (by rfl) (by rfl) (by rfl) ?_
           apply Exists.intro
           refine ⟨?_, ?_⟩
           · intro w' hsz hkw hz1 hz2
             try (replace hz1 := hz1 rfl; have hzc1 := fun j => cell_of_row _ _ j _ _ _ hz1; have hzf1 := fun j => frozen_of_row _ _ j _ _ hz1)
             try (replace hz2 := hz2 rfl; have hzc2 := fun j => cell_of_row _ _ j _ _ _ hz2; have hzf2 := fun j => frozen_of_row _ _ j _ _ hz2)
             have q0_ := (hkw (gh) (by omega) (by omega) (by omega)).trans (K12.out); have q0 := fun j => cell_of_row _ _ j _ _ _ q0_; have qf0 := fun j => frozen_of_row _ _ j _ _ q0_; clear q0_
             have q1_ := (hkw (gf) (by omega) (by omega) (by omega)).trans (K13.out); have q1 := fun j => cell_of_row _ _ j _ _ _ q1_; have qf1 := fun j => frozen_of_row _ _ j _ _ q1_; clear q1_
             clear hkw
             try clear hz1
             try clear hz2
             go_simp
             first
               | exact ⟨rfl, Below.refl _ _⟩
               | exact Below.refl _ _
           conv => arg 9; simp only [put_lit, put_lit_none, List.set])
        | (refine wpLex_put2a (by rfl) (by rfl) (by rfl) (by omega) undef ?_ ?_
           · intro w' hz
             have hzc := fun j => cell_of_row _ _ j _ _ _ hz
             have hzf := fun j => frozen_of_row _ _ j _ _ hz
             go_simp
             exact ⟨(by repeat' (first | (with_reducible exact Below.refl _ _) | (with_reducible (refine Below.setCell ?_ ?_ _)) | omega | (simp; done))), (fun x hx => by repeat (rw [heap_set_other (by exact hx)])), (by simp [World.setCell, Array.getElem?_modify, hz])⟩
           conv => arg 9; simp only [put_lit, put_lit_none, List.set])
        | (refine wpLex_put2b (by rfl) (by rfl) (by rfl) (by omega) undef ?_ ?_
           · intro w' hz
             have hzc := fun j => cell_of_row _ _ j _ _ _ hz
             have hzf := fun j => frozen_of_row _ _ j _ _ hz
             go_simp
             exact ⟨(by repeat' (first | (with_reducible exact Below.refl _ _) | (with_reducible (refine Below.setCell ?_ ?_ _)) | omega | (simp; done))), (fun x hx => by repeat (rw [heap_set_other (by exact hx)])), (by simp [World.setCell, Array.getElem?_modify, hz])⟩
           conv => arg 9; simp only [put_lit, put_lit_none, List.set]))
      refine wpLex_nil ?_
      intro wt dt hdt hCt
      obtain ⟨hbt, hkt, hxt, hyt⟩ := put2_done hCt (hdt 2 (by decide)) (hdt 3 (by decide))
      clear hCt hdt
      have hst := hbt.size
      have HBt := Lib.hid hbt
      have HKt := Lib.hid hkt
      have HXt := Lib.hid hxt
      have HYt := Lib.hid hyt
      clear hbt hkt hxt hyt
      have e8 := fun j => cell_of_row _ _ j _ _ _ HXt.out
      have e9 := fun j => cell_of_row _ _ j _ _ _ HYt.out
      go_wp2
      refine bodyPost_ret (v := .tuple #[.agg #[.int .i64 l0, .int .i64 l1, .bool b0, .bool b1, .bool b2, .bool b3, .bool b4, .int .i64 b5, .int .i64 level], .agg #[.int .i64 0, .int .i64 m1, .int .i64 m2, .bool m3, .int .i64 m4]]) (by simp [results, Try.results73, go_sem, *]) rfl ⟨R2, cr2, rfl, ?_, ?_, ?_, ?_⟩
      · rw [← HRD.out]
        exact (HKt.out g (heap_lt KG.out) (by omega) (by omega)).trans KG.out
      · rw [← HRD.out]
        exact KO.out.keep2 fun p hp => HKt.out p.block (KO.out.block_ hp).2 (VRN.out p hp).1 (VRN.out p hp).2.1
      · exact below_via KB.out HBt.out (by omega)
      · exact ⟨Nat.le_trans KB.out.size HBt.out.size, fun b cs T hb n1 n2 => by
          have hbl := heap_lt hb
          have h1 := VK.out.2 b cs T hb n1 n2
          have h2 := (SB.out.block b (heap_lt h1)).trans h1
          have h3 := (KKP.out b (heap_lt h2) (by omega)).trans h2
          exact (HKt.out b (heap_lt h3) (by omega) (by omega)).trans h3⟩
    · have qm : (m0 != 0) = true := by simpa using hm0
      have hr4 := HR3.out
      try dsimp only at hr4
      rw [if_neg hm0] at hr4
      obtain rfl : res = _ := hr4.symm
     
      go_upto_region 7 with fail
      refine wp_region_done (fun d w9 => Put2C (wv) 2 (w.heap.size + 1) (hitT) (#[.int .i64 0, .int .i64 0, .bool false, .bool false, .bool false, .bool false, .bool false, .int .i64 0, .int .i64 0]) (#[.int .i64 0, .int .i64 0, .bool false, .bool false, .bool false, .bool false, .bool false, .int .i64 0, .int .i64 0]) 3 (w.heap.size + 2) (faultT) (#[.int .i64 0, .int .i64 0, .int .i64 0, .bool false, .int .i64 0]) (#[.int .i64 m0, .int .i64 m1, .int .i64 m2, .bool m3, .int .i64 m4]) d w9) (by kernel_rfl) (by kernel_rfl) (put2_start (V6.out) (V7.out)) ?_
      repeat (first
        | (refine wpLex_pass (by rfl) (passes_put2 (by rfl) (by rfl)) ?_; (conv => arg 9; simp only [put_lit, put_lit_none, List.set]))
        | (refine wpLex_put2 (by rfl) (by rfl) (by rfl) ?_
           apply Exists.intro
           refine ⟨?_, ?_⟩
           · intro w' hsz hkw hz1 hz2
             try (replace hz1 := hz1 rfl; have hzc1 := fun j => cell_of_row _ _ j _ _ _ hz1; have hzf1 := fun j => frozen_of_row _ _ j _ _ hz1)
             try (replace hz2 := hz2 rfl; have hzc2 := fun j => cell_of_row _ _ j _ _ _ hz2; have hzf2 := fun j => frozen_of_row _ _ j _ _ hz2)
             have q0_ := (hkw (gf) (by omega) (by omega) (by omega)).trans (VY.out); have q0 := fun j => cell_of_row _ _ j _ _ _ q0_; have qf0 := fun j => frozen_of_row _ _ j _ _ q0_; clear q0_
             clear hkw
             try clear hz1
             try clear hz2
             go_simp
             first
               | exact ⟨rfl, Below.refl _ _⟩
               | exact Below.refl _ _
           conv => arg 9; simp only [put_lit, put_lit_none, List.set])
        | (refine wpLex_put2a (by rfl) (by rfl) (by rfl) (by omega) undef ?_ ?_
           · intro w' hz
             have hzc := fun j => cell_of_row _ _ j _ _ _ hz
             have hzf := fun j => frozen_of_row _ _ j _ _ hz
             go_simp
             exact ⟨(by repeat' (first | (with_reducible exact Below.refl _ _) | (with_reducible (refine Below.setCell ?_ ?_ _)) | omega | (simp; done))), (fun x hx => by repeat (rw [heap_set_other (by exact hx)])), (by simp [World.setCell, Array.getElem?_modify, hz])⟩
           conv => arg 9; simp only [put_lit, put_lit_none, List.set])
        | (refine wpLex_put2b (by rfl) (by rfl) (by rfl) (by omega) undef ?_ ?_
           · intro w' hz
             have hzc := fun j => cell_of_row _ _ j _ _ _ hz
             have hzf := fun j => frozen_of_row _ _ j _ _ hz
             go_simp
             exact ⟨(by repeat' (first | (with_reducible exact Below.refl _ _) | (with_reducible (refine Below.setCell ?_ ?_ _)) | omega | (simp; done))), (fun x hx => by repeat (rw [heap_set_other (by exact hx)])), (by simp [World.setCell, Array.getElem?_modify, hz])⟩
           conv => arg 9; simp only [put_lit, put_lit_none, List.set]))
      refine wpLex_nil ?_
      intro wt dt hdt hCt
      obtain ⟨hbt, hkt, hxt, hyt⟩ := put2_done hCt (hdt 2 (by decide)) (hdt 3 (by decide))
      clear hCt hdt
      have hst := hbt.size
      have HBt := Lib.hid hbt
      have HKt := Lib.hid hkt
      have HXt := Lib.hid hxt
      have HYt := Lib.hid hyt
      clear hbt hkt hxt hyt
      have e8 := fun j => cell_of_row _ _ j _ _ _ HXt.out
      have e9 := fun j => cell_of_row _ _ j _ _ _ HYt.out
      clear y12 y13 yf12 yf13
      go_wp2
      refine bodyPost_ret (v := .tuple #[.agg noHt.cells.toArray, .agg #[.int .i64 m0, .int .i64 m1, .int .i64 m2, .bool m3, .int .i64 m4]]) (by simp [noHt, Ht.cells, results, Try.results73, go_sem, *]) rfl ⟨R2, cr2, rfl, ?_, ?_, ?_, ?_⟩
      · rw [← HRD.out]
        exact (HKt.out g (heap_lt VG.out) (by omega) (by omega)).trans VG.out
      · rw [← HRD.out]
        exact VO.out.keep2 fun p hp => HKt.out p.block (VO.out.block_ hp).2 (VRN.out p hp).1 (VRN.out p hp).2.1
      · exact below_via VB.out HBt.out (by omega)
      · exact ⟨Nat.le_trans VB.out.size HBt.out.size, fun b cs T hb n1 n2 => by
          have hbl := heap_lt hb
          have h1 := VK.out.2 b cs T hb n1 n2
          exact (HKt.out b (heap_lt h1) (by omega) (by omega)).trans h1⟩
  · have qf : (f0 != 0) = true := by simpa using hf0
    have hr3 := HR2.out
    rw [if_neg hf0] at hr3
    obtain rfl : res = _ := hr3.symm
   
    go_upto_region 3 with fail
    refine wp_region_done (fun d w9 => Put2C (wq) 2 (w.heap.size + 1) (hitT) (#[.int .i64 0, .int .i64 0, .bool false, .bool false, .bool false, .bool false, .bool false, .int .i64 0, .int .i64 0]) (#[.int .i64 0, .int .i64 0, .bool false, .bool false, .bool false, .bool false, .bool false, .int .i64 0, .int .i64 0]) 3 (w.heap.size + 2) (faultT) (#[.int .i64 0, .int .i64 0, .int .i64 0, .bool false, .int .i64 0]) (#[.int .i64 f0, .int .i64 f1, .int .i64 f2, .bool f3, .int .i64 f4]) d w9) (by kernel_rfl) (by kernel_rfl) (put2_start (Q6.out) (Q7.out)) ?_
    repeat (first
      | (refine wpLex_pass (by rfl) (passes_put2 (by rfl) (by rfl)) ?_; (conv => arg 9; simp only [put_lit, put_lit_none, List.set]))
      | (refine wpLex_put2 (by rfl) (by rfl) (by rfl) ?_
         apply Exists.intro
         refine ⟨?_, ?_⟩
         · intro w' hsz hkw hz1 hz2
           try (replace hz1 := hz1 rfl; have hzc1 := fun j => cell_of_row _ _ j _ _ _ hz1; have hzf1 := fun j => frozen_of_row _ _ j _ _ hz1)
           try (replace hz2 := hz2 rfl; have hzc2 := fun j => cell_of_row _ _ j _ _ _ hz2; have hzf2 := fun j => frozen_of_row _ _ j _ _ hz2)
           have q0_ := (hkw (gq) (by omega) (by omega) (by omega)).trans (HXq.out); have q0 := fun j => cell_of_row _ _ j _ _ _ q0_; have qf0 := fun j => frozen_of_row _ _ j _ _ q0_; clear q0_
           clear hkw
           try clear hz1
           try clear hz2
           go_simp
           first
             | exact ⟨rfl, Below.refl _ _⟩
             | exact Below.refl _ _
         conv => arg 9; simp only [put_lit, put_lit_none, List.set])
      | (refine wpLex_put2a (by rfl) (by rfl) (by rfl) (by omega) undef ?_ ?_
         · intro w' hz
           have hzc := fun j => cell_of_row _ _ j _ _ _ hz
           have hzf := fun j => frozen_of_row _ _ j _ _ hz
           go_simp
           exact ⟨(by repeat' (first | (with_reducible exact Below.refl _ _) | (with_reducible (refine Below.setCell ?_ ?_ _)) | omega | (simp; done))), (fun x hx => by repeat (rw [heap_set_other (by exact hx)])), (by simp [World.setCell, Array.getElem?_modify, hz])⟩
         conv => arg 9; simp only [put_lit, put_lit_none, List.set])
      | (refine wpLex_put2b (by rfl) (by rfl) (by rfl) (by omega) undef ?_ ?_
         · intro w' hz
           have hzc := fun j => cell_of_row _ _ j _ _ _ hz
           have hzf := fun j => frozen_of_row _ _ j _ _ hz
           go_simp
           exact ⟨(by repeat' (first | (with_reducible exact Below.refl _ _) | (with_reducible (refine Below.setCell ?_ ?_ _)) | omega | (simp; done))), (fun x hx => by repeat (rw [heap_set_other (by exact hx)])), (by simp [World.setCell, Array.getElem?_modify, hz])⟩
         conv => arg 9; simp only [put_lit, put_lit_none, List.set]))
    refine wpLex_nil ?_
    intro wt dt hdt hCt
    obtain ⟨hbt, hkt, hxt, hyt⟩ := put2_done hCt (hdt 2 (by decide)) (hdt 3 (by decide))
    clear hCt hdt
    have hst := hbt.size
    have HBt := Lib.hid hbt
    have HKt := Lib.hid hkt
    have HXt := Lib.hid hxt
    have HYt := Lib.hid hyt
    clear hbt hkt hxt hyt
    have e8 := fun j => cell_of_row _ _ j _ _ _ HXt.out
    have e9 := fun j => cell_of_row _ _ j _ _ _ HYt.out
    clear q8 qf8
    go_wp2
    refine bodyPost_ret (v := .tuple #[.agg noHt.cells.toArray, .agg #[.int .i64 f0, .int .i64 f1, .int .i64 f2, .bool f3, .int .i64 f4]]) (by simp [noHt, Ht.cells, results, Try.results73, go_sem, *]) rfl ⟨R0, c0, rfl, ?_, ?_, ?_, ?_⟩
    · try simp only [List.append_nil]
      exact (HKt.out g (heap_lt QG.out) (by omega) (by omega)).trans QG.out
    · try simp only [List.append_nil]
      exact QO.out.keep2 fun p hp => HKt.out p.block (QO.out.block_ hp).2 (by have := (HO.out.block_ hp).2; omega) (by have := (HO.out.block_ hp).2; omega)
    · exact below_via (QB.out.mono (Nat.le_of_lt hgl)) HBt.out (by omega)
    · exact ⟨Nat.le_trans QB.out.size HBt.out.size, fun b cs T hb n1 n2 => by
        have hbl := heap_lt hb
        have h1 := (QB.out.block b hbl).trans hb
        exact (HKt.out b (heap_lt h1) (by omega) (by omega)).trans h1⟩

end Go.Proofs.Ytddbndmbcdeggaa
