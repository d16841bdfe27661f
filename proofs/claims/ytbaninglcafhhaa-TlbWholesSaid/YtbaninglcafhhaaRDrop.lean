/-
  An entry less: the page's answer. Conditions: it reads; the lengths fit.
-/
import Derived.Test.YtbaninglcafhhaaDrop
import Derived.Test.YtbaninglcafhhaaProm
import Derived.Test.YtbaninglcafhhaaPair
import Derived.Test.YtbaninglcafhhaaPut
namespace Go.Proofs.Ytbaninglcafhhaa
open Go.RowKit

theorem reads_drop {w : World} {b off : Nat} {l : List Ent} (hc : ∀ i (h : i < l.length) j u, (Ent.cells l[i])[j]? = some u → w.cell? ⟨b, off + i * 14 + j, none⟩ = some u) (hb : b < w.heap.size) (k : Nat) (hk : k ≤ l.length) :
    Reads w w.heap.size 14 (some ⟨b, off + k * 14, none⟩) (l.length - k) ((l.drop k).flatMap Ent.cells) := by
  refine ⟨by rw [flat_len Ent.cells 14 ent_len, List.length_drop], fun _ => ⟨_, rfl, hb, fun j u hu => ?_⟩⟩
  have e1 : (⟨b, off + k * 14, none⟩ : Addr).add j = ⟨b, off + k * 14 + j, none⟩ := by
    unfold Addr.add
    by_cases z : j = 0 <;> simp [z]
  rw [e1]
  have hjl : j < (l.drop k).length * 14 := by
    have h1 := (List.getElem?_eq_some_iff.1 hu).1
    rwa [flat_len Ent.cells 14 ent_len] at h1
  have hi : j / 14 < (l.drop k).length := by omega
  have h2 := flat_get Ent.cells 14 ent_len (l.drop k) (j / 14) (j % 14) hi (by omega)
  rw [show j / 14 * 14 + j % 14 = j by omega] at h2
  rw [h2, List.getElem_drop] at hu
  have hkl : k + j / 14 < l.length := by rw [List.length_drop] at hi; omega
  have h3 := hc (k + j / 14) hkl (j % 14) u hu
  rw [show off + (k + j / 14) * 14 + j % 14 = off + k * 14 + j by omega] at h3
  exact h3
theorem reads_none {w : World} (A : Option Addr) {l : List Ent} (h : l.length = 0) : Reads w w.heap.size 14 A 0 (l.flatMap Ent.cells) := by
  rw [List.eq_nil_of_length_eq_zero h]
  exact ⟨rfl, fun h => absurd h (by omega)⟩

def SlF (B n : Nat) (l : List Ent) (v : Value) (w : World) : Prop := ∃ A c, v = .slice A n c ∧ Own w B entT 14 Ent.cells l A c
theorem SlF.keep {B n : Nat} {l : List Ent} {v : Value} {w w' : World} (h : SlF B n l v w) (hb : Below w.heap.size w w') : SlF B n l v w' := by
  obtain ⟨A, c, e, h⟩ := h
  exact ⟨A, c, e, h.below hb (Nat.le_refl _)⟩

set_option maxRecDepth 100000 in
set_option maxHeartbeats 8000000 in
theorem rDrop_any (t : Tl) (n : Nat) (w : World) (h : TlAt w t) (h1 : t.es.length ≤ 1000000) (h2 : t.ds.length ≤ 1000000) (hn : n < t.es.length) :
    Calls Try.prog 51 #[.agg t.cells.toArray, .int .i64 n] w fun y w' => ∃ A c B d, y = .returned (.agg #[.slice A (dropE t.es n).length c, .slice B t.ds.length d]) ∧
      Own w' (w.heap.size + 2) entT 14 Ent.cells (dropE t.es n) A c ∧ Own w' (w.heap.size + 2) invT 4 Inv.cells t.ds B d ∧ Below w.heap.size w w' := by
  obtain ⟨i0, hi0, hz0, hz1, hz2⟩ := info_parts ent_info
  have HI0 := Lib.hid hi0
  have HZ0 := Lib.hid hz0
  have HZ1 := Lib.hid hz1
  have HZ2 := Lib.hid hz2
  clear hi0 hz0 hz1 hz2
  have HCP := Lib.hid (fun W (hb : Below w.heap.size w W) => CopyTLB_any t W (h.below hb) h1 h2)
  have hecap := h.ecap
  have HAT := Lib.hid h.eat
  have HAX := Lib.hid (h.eat (by omega))
  obtain ⟨ea, ec, es, da, dc, ds⟩ := t
  dsimp only [Tl.cells] at *
  clear h
  obtain ⟨be, oe, rfl, hbe, hce⟩ := HAX.out
  have HCE := Lib.hid hce
  clear hce HAX
  have htl : (es.take n).length = n := by simp; omega
  have HCY := Lib.hid (fun W (hb : Below w.heap.size w W) => Copy_ent (some ⟨be, oe, none⟩) ec (es.take n) W (by rw [List.length_take]; omega) ((HAT.out.below hb).pre n))
  simp only [htl] at HCY
  have HTL := Lib.hid htl
  have HES := Lib.hid (show dropE es n = es.take n ++ es.drop (n + 1) from rfl)
  generalize dropE es n = es' at *
  have hni : (n : Int) < es.length := by omega
  have hn0 : (0 : Int) ≤ (n : Int) := by omega
  have hn1 : (n : Int) ≤ ec := by omega
  have hn2 : (n : Int) + 1 ≤ es.length := by omega
  have hn3 : (0 : Int) ≤ (n : Int) + 1 := by omega
  have hn4 : ((n : Int) + 1).toNat = n + 1 := by omega
  clear htl
  go_enter Try.func51, Try.ntmps51
  go_wp2_with fail
  refine Calls.mono (HCP.out _ (by repeat' (first | (with_reducible exact Below.refl _ _) | (with_reducible (refine Below.setCell ?_ ?_ _)) | (with_reducible (refine Below.alloc ?_ ?_ _)) | (with_reducible (refine Below.drew ?_)) | omega | (simp; done) | (simp; omega)))) ?_
  rintro e w1 ⟨A, c, B, d, rfl, hown, howd, hb1⟩
  have hs1 := hb1.size
  try simp at hs1
  have hc1_0 := fun o => (bcell hb1).1 (w.heap.size) o (by first | omega | (simp; done) | (simp; omega))
  have hf1_0 := fun o => (bcell hb1).2.1 (w.heap.size) o (by first | omega | (simp; done) | (simp; omega))
  have hz1_0 := (bcell hb1).2.2 (w.heap.size) (by first | omega | (simp; done) | (simp; omega))
  have hc1_1 := fun o => (bcell hb1).1 (w.heap.size + 1) o (by first | omega | (simp; done) | (simp; omega))
  have hf1_1 := fun o => (bcell hb1).2.1 (w.heap.size + 1) o (by first | omega | (simp; done) | (simp; omega))
  have hz1_1 := (bcell hb1).2.2 (w.heap.size + 1) (by first | omega | (simp; done) | (simp; omega))
  have HB1 := Lib.hid hb1
  clear hb1
  have Hhown := Lib.hid hown
  clear hown
  have Hhowd := Lib.hid howd
  clear howd
  go_wp2_with fail
  refine name_world ?_
  intro wa hwa
  have HBX := Lib.hid (show Below w.heap.size w wa by rw [hwa]; repeat' (first | (with_reducible exact Below.refl _ _) | (with_reducible (refine Below.setCell ?_ ?_ _)) | (with_reducible (refine Below.alloc ?_ ?_ _)) | (with_reducible (refine Below.drew ?_)) | (with_reducible (refine below_via ?_ HB1.out ?_)) | omega | (simp; done) | (simp; omega)))
  have HX0 := Lib.hid (show wa.heap[w.heap.size]? = some (.cells #[.slice (some ⟨be, oe, none⟩) es.length ec, .slice da ds.length dc] tlbT (0, 0)) by rw [hwa]; exact (by repeat (first | (with_reducible assumption) | (with_reducible refine heap_below_is HB1.out (by (first | omega | (simp; done) | (simp; omega))) ?_) | (exact heap_at _ _ (by simp; done)) | (with_reducible refine heap_old_is _ _ (by (first | omega | (simp; done) | (simp; omega))) ?_) | (with_reducible refine heap_far_is (by (first | omega | (simp; done) | (simp; omega))) ?_))))
  have HX5 := Lib.hid (show wa.heap[w1.heap.size]? = some (.cells #[.slice A es.length c, .slice B ds.length d] tlbT (0, 0)) by rw [hwa]; exact heap_new _ _)
  have HX4 := Lib.hid (show wa.heap[w.heap.size + 1]? = some (.cells #[.slice none 0 0, .slice none 0 0] tlbT (0, 0)) by rw [hwa]; exact (by repeat (first | (with_reducible assumption) | (with_reducible refine heap_below_is HB1.out (by (first | omega | (simp; done) | (simp; omega))) ?_) | (exact heap_at _ _ (by simp; done)) | (with_reducible refine heap_old_is _ _ (by (first | omega | (simp; done) | (simp; omega))) ?_) | (with_reducible refine heap_far_is (by (first | omega | (simp; done) | (simp; omega))) ?_))))
  have HIA := Lib.hid (show Own wa (w.heap.size + 2) invT 4 Inv.cells ds B d by rw [hwa]; exact (by repeat (first | (with_reducible exact Own.mono Hhowd.out (by (first | omega | (simp; done) | (simp; omega)))) | (with_reducible refine Own.set_far ?_ (by (first | omega | (simp; done) | (simp; omega))) _) | (with_reducible refine Own.alloc ?_ _) | (with_reducible refine Own.drew ?_))))
  have hsa : w1.heap.size < wa.heap.size := by rw [hwa]; simp
  have hw12 : w.heap.size + 2 ≤ w1.heap.size := by omega
  have hb0 : w.heap.size < wa.heap.size := by omega
  clear hwa hc1_0 hf1_0 hz1_0 hc1_1 hf1_1 hz1_1 Hhown Hhowd
  have x0 := fun j => cell_of_row _ _ j _ _ _ HX0.out
  have xf0 := fun j => frozen_of_row _ _ j _ _ HX0.out
  have HST : Stays [⟨4, none, 12, NoV, SlF wa.heap.size n (es.take n)⟩] := stays_cons (fun _ _ _ h hb => SlF.keep h hb) stays_nil
  have hw1 : IntKind.i64.wrap ((n : Int) + 1) = (n : Int) + 1 := IntWalk.i64_in _ (by omega)
  have HRD := Lib.hid (fun W (hb : Below w.heap.size w W) => reads_drop (w := W) (b := be) (off := oe) (l := es) (fun i hi j u hu => (hb.cell (p := ⟨be, oe + i * 14 + j, none⟩) hbe).trans (HCE.out i hi j u hu)) (by have := hb.size; omega) (n + 1) (by omega))
  by_cases hci : ec = n + 1
  · subst hci
    have hn5 : (n : Int) ≤ (n : Int) + 1 := by omega
    refine wp_region_lex_tail 10 [12] (PromC (wa) ([⟨4, none, 12, NoV, SlF wa.heap.size n (es.take n)⟩])) (promC_looks (by rfl)) (by kernel_rfl) (by kernel_rfl) (by kernel_rfl) (by kernel_rfl) (promC_start _) ?_
    repeat (first
      | (refine wpLex_promMake 0 _ [] HST rfl (by rfl) (by rfl) (by rfl) (by rfl) (by rfl) (by rfl) (by rfl) ?_ ?_
         · intro u w' hb hk
           have hsz := hb.size
           try simp at hsz
           have hcw := fun b o (h : b < (wa).heap.size) => hb.cell (p := ⟨b, o, none⟩) h
           have hfw := fun b o (h : b < (wa).heap.size) => hb.frozen (p := ⟨b, o, none⟩) h
           try simp only [putS, List.foldl, put_lit, List.set]
           go_simp
           (with_reducible refine Calls.mono (HCY.out _ (by repeat' (first | (with_reducible exact Below.refl _ _) | (with_reducible (refine Below.setCell ?_ ?_ _)) | (with_reducible (refine Below.alloc ?_ ?_ _)) | (with_reducible (refine Below.drew ?_)) | (with_reducible (refine below_via ?_ hb ?_)) | (with_reducible (refine below_via ?_ HBX.out ?_)) | omega | (simp; done) | (simp; omega)))) ?_)
           rintro e w2 ⟨A', c', rfl, h5, hb2⟩
           exact ⟨_, rfl, trivial, ⟨A', c', rfl, h5.mono hsz⟩, hb2⟩
         (conv => arg 9; simp only [put_lit, put_lit_none, List.set]))
      | (refine wpLex_pass (by rfl) (passes_prom HST (by rfl)) ?_; (conv => arg 9; simp only [put_lit, put_lit_none, List.set]))
      | (refine wpLex_promUse [] HST (by rfl) (by rfl) (by rfl) ?_
         apply Exists.intro
         refine ⟨?_, ?_⟩
         · intro u w' hb _
           have hsz := hb.size
           try simp at hsz
           have hcw := fun b o (h : b < (wa).heap.size) => hb.cell (p := ⟨b, o, none⟩) h
           have hfw := fun b o (h : b < (wa).heap.size) => hb.frozen (p := ⟨b, o, none⟩) h
           try simp only [putS, List.foldl, put_lit, List.set]
           go_simp
           first
             | exact ⟨rfl, Below.refl _ _⟩
             | exact Below.refl _ _
             | exact rfl
         (conv => arg 9; simp only [put_lit, put_lit_none, List.set])))
    refine wpLex_nil ?_
    intro wp bp dp hdp hCp hop
    obtain ⟨up, rfl, hbp, hkp⟩ := promC_end hCp hdp hop
    clear hCp hop hdp dp
    simp only [putS, List.foldl, put_lit, List.set]
    have hsp := hbp.size
    try simp at hsp
    have hcp := fun b o (h : b < (wa).heap.size) => hbp.cell (p := ⟨b, o, none⟩) h
    have hfp := fun b o (h : b < (wa).heap.size) => hbp.frozen (p := ⟨b, o, none⟩) h
    have HBp := Lib.hid hbp
    clear hbp
    simp only [List.drop]
    obtain ⟨Ap, cp, e12, hop⟩ := (hkp 0 _ rfl (of_decide_eq_true (by rfl)) rfl).2
    have e12' : up 12 = _ := e12
    rw [e12']
    clear hkp e12 e12' up
    have HOP := Lib.hid (show wp.ownsRow wa.heap.size entT 14 (.slice Ap n cp) n ((es.take n).flatMap Ent.cells) from by
      have := hop
      unfold Own at this
      rwa [HTL.out] at this)
    have hrd : Reads wp wp.heap.size 14 (some ⟨be, oe, none⟩) 0 ((es.drop (n + 1)).flatMap Ent.cells) := reads_none _ (by rw [List.length_drop]; omega) 
    refine wpList_append_any _ rfl (.tmp 12) (.tmp 17) _ rfl wa.heap.size entT i0 _ 14 80 Try.underlying24 HI0.out HZ0.out HZ1.out HZ2.out rfl (by omega) _ n ((es.take n).flatMap Ent.cells) rfl HOP.out _ _ _ _ ((es.drop (n + 1)).flatMap Ent.cells) rfl hrd (fun u hu => ent_one u hu) (by simp only [maxLen]; omega) (by omega) (by omega) ?_
    intro v5 w5 hown5 hg5 _
    obtain ⟨A5, c5, rfl, ho5⟩ := own_form (l := es') (by rw [HES.out, List.length_append, HTL.out, List.length_drop, List.flatMap_append]; rw [show es.length - (n + 1) = 0 by omega]; exact hown5)
    have HO5 := Lib.hid ho5
    have HB5 := Lib.hid (show Below wa.heap.size wp w5 from (Below.refl _ _).grown hg5 (by omega) (fun k hk => (World.ownsRow.lt HOP.out k hk).1))
    have hs5 := HB5.out.size
    have HBA := Lib.hid (show Below wa.heap.size wa w5 from HBp.out.trans HB5.out)
    clear hown5 hg5 hop ho5 hrd hw1 x0 xf0 hcp hfp
    have HY5 := Lib.hid ((HBA.out.block _ hsa).trans HX5.out)
    have HY4 := Lib.hid ((HBA.out.block _ (by omega : w.heap.size + 1 < wa.heap.size)).trans HX4.out)
    have HI5 := Lib.hid (HIA.out.below HBA.out (Nat.le_refl _))
    have y5 := fun j => cell_of_row _ _ j _ _ _ HY5.out
    have yf5 := fun j => frozen_of_row _ _ j _ _ HY5.out
    have y4 := fun j => cell_of_row _ _ j _ _ _ HY4.out
    have yf4 := fun j => frozen_of_row _ _ j _ _ HY4.out
    have hn1' := HO5.out.ne_blk HY5.out (by decide)
    have hn2' := HI5.out.ne_blk HY5.out (by decide)
    have HO6 := Lib.hid (fun u => (HO5.out.mono (show w.heap.size + 2 ≤ wa.heap.size by omega)).set_ne (p := ⟨w1.heap.size, 0, none⟩) hn1' u)
    have HI6 := Lib.hid (fun u => HI5.out.set_ne (p := ⟨w1.heap.size, 0, none⟩) hn2' u)
    have hne1 : ¬ w1.heap.size = w.heap.size + 1 := by omega
    have hne2 : ¬ w.heap.size + 1 = w1.heap.size := by omega
    clear hn1' hn2'
    go_wp2
    refine bodyPost_ret (v := .agg #[.slice A5 es'.length c5, .slice B ds.length d]) (by simp [results, Try.results51, go_sem, *]) rfl ⟨A5, c5, B, d, rfl, ?_, ?_, ?_⟩
    · exact ((HO6.out _).set_far (by simp) _).set_far (by simp) _
    · exact ((HI6.out _).set_far (by simp) _).set_far (by simp) _
    · repeat' (first | (with_reducible exact Below.refl _ _) | (with_reducible (refine Below.setCell ?_ ?_ _)) | (with_reducible (refine Below.alloc ?_ ?_ _)) | (with_reducible (refine Below.drew ?_)) | (with_reducible (refine below_via ?_ HBA.out ?_)) | (with_reducible (refine below_via ?_ HBX.out ?_)) | omega | (simp; done) | (simp; omega))
  · have hci' : ¬ ec = n + 1 := hci
    refine wp_region_lex_tail 10 [12] (PromC (wa) ([⟨4, none, 12, NoV, SlF wa.heap.size n (es.take n)⟩])) (promC_looks (by rfl)) (by kernel_rfl) (by kernel_rfl) (by kernel_rfl) (by kernel_rfl) (promC_start _) ?_
    repeat (first
      | (refine wpLex_promMake 0 _ [] HST rfl (by rfl) (by rfl) (by rfl) (by rfl) (by rfl) (by rfl) (by rfl) ?_ ?_
         · intro u w' hb hk
           have hsz := hb.size
           try simp at hsz
           have hcw := fun b o (h : b < (wa).heap.size) => hb.cell (p := ⟨b, o, none⟩) h
           have hfw := fun b o (h : b < (wa).heap.size) => hb.frozen (p := ⟨b, o, none⟩) h
           try simp only [putS, List.foldl, put_lit, List.set]
           go_simp
           (with_reducible refine Calls.mono (HCY.out _ (by repeat' (first | (with_reducible exact Below.refl _ _) | (with_reducible (refine Below.setCell ?_ ?_ _)) | (with_reducible (refine Below.alloc ?_ ?_ _)) | (with_reducible (refine Below.drew ?_)) | (with_reducible (refine below_via ?_ hb ?_)) | (with_reducible (refine below_via ?_ HBX.out ?_)) | omega | (simp; done) | (simp; omega)))) ?_)
           rintro e w2 ⟨A', c', rfl, h5, hb2⟩
           exact ⟨_, rfl, trivial, ⟨A', c', rfl, h5.mono hsz⟩, hb2⟩
         (conv => arg 9; simp only [put_lit, put_lit_none, List.set]))
      | (refine wpLex_pass (by rfl) (passes_prom HST (by rfl)) ?_; (conv => arg 9; simp only [put_lit, put_lit_none, List.set]))
      | (refine wpLex_promUse [] HST (by rfl) (by rfl) (by rfl) ?_
         apply Exists.intro
         refine ⟨?_, ?_⟩
         · intro u w' hb _
           have hsz := hb.size
           try simp at hsz
           have hcw := fun b o (h : b < (wa).heap.size) => hb.cell (p := ⟨b, o, none⟩) h
           have hfw := fun b o (h : b < (wa).heap.size) => hb.frozen (p := ⟨b, o, none⟩) h
           try simp only [putS, List.foldl, put_lit, List.set]
           go_simp
           first
             | exact ⟨rfl, Below.refl _ _⟩
             | exact Below.refl _ _
             | exact rfl
         (conv => arg 9; simp only [put_lit, put_lit_none, List.set])))
    refine wpLex_nil ?_
    intro wp bp dp hdp hCp hop
    obtain ⟨up, rfl, hbp, hkp⟩ := promC_end hCp hdp hop
    clear hCp hop hdp dp
    simp only [putS, List.foldl, put_lit, List.set]
    have hsp := hbp.size
    try simp at hsp
    have hcp := fun b o (h : b < (wa).heap.size) => hbp.cell (p := ⟨b, o, none⟩) h
    have hfp := fun b o (h : b < (wa).heap.size) => hbp.frozen (p := ⟨b, o, none⟩) h
    have HBp := Lib.hid hbp
    clear hbp
    simp only [List.drop]
    obtain ⟨Ap, cp, e12, hop⟩ := (hkp 0 _ rfl (of_decide_eq_true (by rfl)) rfl).2
    have e12' : up 12 = _ := e12
    rw [e12']
    clear hkp e12 e12' up
    have HOP := Lib.hid (show wp.ownsRow wa.heap.size entT 14 (.slice Ap n cp) n ((es.take n).flatMap Ent.cells) from by
      have := hop
      unfold Own at this
      rwa [HTL.out] at this)
    have hrd : Reads wp wp.heap.size 14 (some ⟨be, oe + (n + 1) * 14, none⟩) (es.length - (n + 1)) ((es.drop (n + 1)).flatMap Ent.cells) := HRD.out _ (by repeat' (first | (with_reducible exact Below.refl _ _) | (with_reducible (refine Below.setCell ?_ ?_ _)) | (with_reducible (refine Below.alloc ?_ ?_ _)) | (with_reducible (refine Below.drew ?_)) | (with_reducible (refine below_via ?_ HBp.out ?_)) | (with_reducible (refine below_via ?_ HBX.out ?_)) | omega | (simp; done) | (simp; omega)))
    refine wpList_append_any _ rfl (.tmp 12) (.tmp 17) _ rfl wa.heap.size entT i0 _ 14 80 Try.underlying24 HI0.out HZ0.out HZ1.out HZ2.out rfl (by omega) _ n ((es.take n).flatMap Ent.cells) rfl HOP.out _ _ _ _ ((es.drop (n + 1)).flatMap Ent.cells) rfl hrd (fun u hu => ent_one u hu) (by simp only [maxLen]; omega) (by omega) (by omega) ?_
    intro v5 w5 hown5 hg5 _
    obtain ⟨A5, c5, rfl, ho5⟩ := own_form (l := es') (by rw [HES.out, List.length_append, HTL.out, List.length_drop, List.flatMap_append]; exact hown5)
    have HO5 := Lib.hid ho5
    have HB5 := Lib.hid (show Below wa.heap.size wp w5 from (Below.refl _ _).grown hg5 (by omega) (fun k hk => (World.ownsRow.lt HOP.out k hk).1))
    have hs5 := HB5.out.size
    have HBA := Lib.hid (show Below wa.heap.size wa w5 from HBp.out.trans HB5.out)
    clear hown5 hg5 hop ho5 hrd hw1 x0 xf0 hcp hfp
    have HY5 := Lib.hid ((HBA.out.block _ hsa).trans HX5.out)
    have HY4 := Lib.hid ((HBA.out.block _ (by omega : w.heap.size + 1 < wa.heap.size)).trans HX4.out)
    have HI5 := Lib.hid (HIA.out.below HBA.out (Nat.le_refl _))
    have y5 := fun j => cell_of_row _ _ j _ _ _ HY5.out
    have yf5 := fun j => frozen_of_row _ _ j _ _ HY5.out
    have y4 := fun j => cell_of_row _ _ j _ _ _ HY4.out
    have yf4 := fun j => frozen_of_row _ _ j _ _ HY4.out
    have hn1' := HO5.out.ne_blk HY5.out (by decide)
    have hn2' := HI5.out.ne_blk HY5.out (by decide)
    have HO6 := Lib.hid (fun u => (HO5.out.mono (show w.heap.size + 2 ≤ wa.heap.size by omega)).set_ne (p := ⟨w1.heap.size, 0, none⟩) hn1' u)
    have HI6 := Lib.hid (fun u => HI5.out.set_ne (p := ⟨w1.heap.size, 0, none⟩) hn2' u)
    have hne1 : ¬ w1.heap.size = w.heap.size + 1 := by omega
    have hne2 : ¬ w.heap.size + 1 = w1.heap.size := by omega
    clear hn1' hn2'
    go_wp2
    refine bodyPost_ret (v := .agg #[.slice A5 es'.length c5, .slice B ds.length d]) (by simp [results, Try.results51, go_sem, *]) rfl ⟨A5, c5, B, d, rfl, ?_, ?_, ?_⟩
    · exact ((HO6.out _).set_far (by simp) _).set_far (by simp) _
    · exact ((HI6.out _).set_far (by simp) _).set_far (by simp) _
    · repeat' (first | (with_reducible exact Below.refl _ _) | (with_reducible (refine Below.setCell ?_ ?_ _)) | (with_reducible (refine Below.alloc ?_ ?_ _)) | (with_reducible (refine Below.drew ?_)) | (with_reducible (refine below_via ?_ HBA.out ?_)) | (with_reducible (refine below_via ?_ HBX.out ?_)) | omega | (simp; done) | (simp; omega))

end Go.Proofs.Ytbaninglcafhhaa
