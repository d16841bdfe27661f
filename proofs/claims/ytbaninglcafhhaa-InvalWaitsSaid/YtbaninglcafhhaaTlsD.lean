/-
  All rows behind what one waits for: the program's answer and the page's. Conditions: the lengths fit.
-/
import Derived.Test.YtbaninglcafhhaaTlsC
import Derived.Test.YtbaninglcafhhaaRApp
namespace Go.Proofs.Ytbaninglcafhhaa
open Go Go.RowKit

theorem tlsOk_at {ts : List Tl} (h : tlsOk ts = true) {k : Nat} (hk : k < ts.length) : tlbOk ts[k].es ts[k].ds = true := by
  unfold tlsOk at h
  rw [List.all_eq_true] at h
  exact h _ (List.getElem_mem hk)
theorem all_due {l : List Inv} (h : ∀ i ∈ l, dueOk i = true) : l.all dueOk = true := List.all_eq_true.2 h

set_option maxRecDepth 100000 in
set_option maxHeartbeats 8000000 in
theorem Wait_no (A : Option Addr) (c : Nat) (ts : List Tl) (cpu : Int) (w : World) (h : TlsAt w A ts) (hl : ts.length ≤ 1000000) (hno : (tlsOk ts && (decide (0 ≤ cpu) && decide (cpu < ts.length))) = false) :
    Calls Try.prog 44 #[.slice A ts.length c, .int .i64 cpu] w fun e w' => e = .returned (.tuple #[.slice none 0 0, .int .i64 1]) ∧ Below w.heap.size w w' := by
  have HC := Lib.hid (fun W (hb : Below w.heap.size w W) => ContainsFunc_tlb0 78 (fun t => !tlbOk t.es t.ds) A c ts W (by omega) (h.row.below hb) (fun _ _ => by kernel_rfl) (fun W' x hx hb2 => wait1_any x W' (((h.each x hx).below hb).below hb2)))
  have HN := Lib.hid (show (ts.any fun t => !tlbOk t.es t.ds) = !(tlsOk ts) by unfold tlsOk; rw [List.not_all_eq_any_not])
  rw [HN.out] at HC
  clear h HN
  by_cases h0 : cpu < 0
  · have q0 : decide (cpu < 0) = true := by simpa using h0
    go_enter Try.func44, Try.ntmps44
    go_wp2
    refine bodyPost_ret (v := .tuple #[.slice none 0 0, .int .i64 1]) (by simp [results, Try.results44, go_sem, *]) rfl ⟨rfl, (by repeat' (first | (with_reducible exact Below.refl _ _) | (with_reducible (refine Below.setCell ?_ ?_ _)) | (with_reducible (refine Below.alloc ?_ ?_ _)) | (with_reducible (refine Below.drew ?_)) | omega | (simp; done) | (simp; omega)))⟩
  · have q0 : decide (cpu < 0) = false := by simpa using h0
    by_cases h1 : (ts.length : Int) ≤ cpu
    · have q1 : decide (cpu ≥ ts.length) = true := by simpa using h1
      go_enter Try.func44, Try.ntmps44
      go_wp2
      refine bodyPost_ret (v := .tuple #[.slice none 0 0, .int .i64 1]) (by simp [results, Try.results44, go_sem, *]) rfl ⟨rfl, (by repeat' (first | (with_reducible exact Below.refl _ _) | (with_reducible (refine Below.setCell ?_ ?_ _)) | (with_reducible (refine Below.alloc ?_ ?_ _)) | (with_reducible (refine Below.drew ?_)) | omega | (simp; done) | (simp; omega)))⟩
    · have q1 : decide (cpu ≥ ts.length) = false := by simpa using h1
      have hok : tlsOk ts = false := by
        cases hk : tlsOk ts
        · rfl
        · rw [hk] at hno
          simp at hno
          omega
      rw [hok] at HC
      clear hok hno
      go_enter Try.func44, Try.ntmps44
      go_wp2_with fail
      refine Calls.mono (HC.out _ (by repeat' (first | (with_reducible exact Below.refl _ _) | (with_reducible (refine Below.setCell ?_ ?_ _)) | (with_reducible (refine Below.alloc ?_ ?_ _)) | (with_reducible (refine Below.drew ?_)) | omega | (simp; done) | (simp; omega)))) ?_
      rintro e w1 ⟨rfl, hb1⟩
      have hs1 := hb1.size
      try simp at hs1
      have HB1 := Lib.hid hb1
      clear hb1
      go_wp2
      refine bodyPost_ret (v := .tuple #[.slice none 0 0, .int .i64 1]) (by simp [results, Try.results44, go_sem, *]) rfl ⟨rfl, (by repeat' (first | (with_reducible exact Below.refl _ _) | (with_reducible (refine Below.setCell ?_ ?_ _)) | (with_reducible (refine Below.alloc ?_ ?_ _)) | (with_reducible (refine Below.drew ?_)) | (with_reducible (refine below_via ?_ HB1.out ?_)) | omega | (simp; done) | (simp; omega)))⟩

set_option maxRecDepth 100000 in
set_option maxHeartbeats 16000000 in
theorem Wait_yes (A : Option Addr) (c : Nat) (ts : List Tl) (m : Nat) (w : World) (h : TlsAt w A ts) (hl : ts.length ≤ 1000000) (hok : tlsOk ts = true) (hm : m < ts.length) :
    Calls Try.prog 44 #[.slice A ts.length c, .int .i64 m] w fun e w' => ∃ A' c' xs, e = .returned (.tuple #[.slice A' (xs : List Tl).length c', .int .i64 0]) ∧ TlsRow w' w.heap.size A' xs ∧ held xs = noDue ((held ts).map (goneT ts[m].ds)) m ∧ Below w.heap.size w w' := by
  have HC := Lib.hid (fun W (hb : Below w.heap.size w W) => ContainsFunc_tlb0 78 (fun t => !tlbOk t.es t.ds) A c ts W (by omega) (h.row.below hb) (fun _ _ => by kernel_rfl) (fun W' x hx hb2 => wait1_any x W' (((h.each x hx).below hb).below hb2)))
  have HN := Lib.hid (show (ts.any fun t => !tlbOk t.es t.ds) = !(tlsOk ts) by unfold tlsOk; rw [List.not_all_eq_any_not])
  rw [HN.out, hok] at HC
  obtain ⟨j0, hi0, hz0, hz1, hz2⟩ := info_parts tlb_info
  have HI0 := Lib.hid hi0
  have HZ0 := Lib.hid hz0
  have HZ1 := Lib.hid hz1
  have HZ2 := Lib.hid hz2
  have HA := Lib.hid h
  have HOK := Lib.hid hok
  clear hi0 hz0 hz1 hz2 h HN hok
  obtain ⟨bm, om, rfl, hbm, m0, m1⟩ := tl_cells HA.out.row (Below.refl _ _) hm
  have M1 := Lib.hid m1
  have hmt := HA.out.each ts[m] (List.getElem_mem hm)
  have HDA := Lib.hid hmt.dat
  have hdl := hmt.dlen
  have HDO := Lib.hid (all_due (tlbOk_ents (tlsOk_at HOK.out hm)).2.2.2)
  clear m0 m1 hmt
  obtain ⟨tm, htm⟩ : ∃ x, ts[m] = x := ⟨_, rfl⟩
  rw [htm] at M1 HDA HDO hdl ⊢
  clear htm
  obtain ⟨ma, mc, me, md, mf, mg⟩ := tm
  dsimp only at M1 HDA HDO hdl ⊢
  have q0 : decide ((m : Int) < 0) = false := by simp
  have q1 : decide ((ts.length : Int) ≤ m) = false := by simp; omega
  have q2 : decide (ts.length ≤ m) = false := by simp; omega
  go_enter Try.func44, Try.ntmps44
  go_wp2_with fail
  refine Calls.mono (HC.out _ (by repeat' (first | (with_reducible exact Below.refl _ _) | (with_reducible (refine Below.setCell ?_ ?_ _)) | (with_reducible (refine Below.alloc ?_ ?_ _)) | (with_reducible (refine Below.drew ?_)) | omega | (simp; done) | (simp; omega)))) ?_
  rintro e w1 ⟨rfl, hb1⟩
  have hs1 := hb1.size
  try simp at hs1
  have HB1 := Lib.hid hb1
  clear hb1
  clear HC
  go_wp2_with fail
 
  go_loopg [6, 25] ts.length (fun gg v6 v25 wr => ∃ (k : Nat) (A' : Option Addr) (c' : Nat) (ts' : List Tl), k ≤ ts.length ∧ gg = ts.length - k ∧ v25 = .int .i64 k ∧ v6 = .slice A' ts'.length c' ∧ ts'.length ≤ k ∧ k ≤ ts'.length ∧ TlsOwn wr w.heap.size A' c' ts' ∧ held ts' = (held (ts.take k)).map (goneT mg) ∧ Below w.heap.size w wr)
  case atStart => exact ⟨0, none, 0, [], Nat.zero_le _, rfl, rfl, rfl, Nat.le_refl _, Nat.le_refl _, TlsOwn.nil, rfl, HB1.out⟩
  case round =>
    obtain ⟨k, A', c', ts', hk, hgk, rfl, rfl, hkl, hkg, hto, hhe, hbw⟩ := hrel
    have HGK := Lib.hid hgk
    have HTO := Lib.hid hto
    have HHE := Lib.hid hhe
    have HBW := Lib.hid hbw
    have hsw := hbw.size
    clear hgk hto hhe hbw
    by_cases hlt : k < ts.length
    · have hki : (k : Int) < ts.length := by omega
      obtain ⟨b, off, hbe, hb, t0, t1⟩ := tl_cells HA.out.row HBW.out hlt
      injection hbe with hbe
      injection hbe with hb1 hb2
      subst hb1 hb2
      have hbr : bm < wr.heap.size := by omega
      have m1 := (HBW.out.cell (p := ⟨bm, om + m * 2 + 1, none⟩) hbm).trans M1.out
      have HST := Lib.hid (fun (y : Tl) (e1 : y.es = ts[k].es.filter fun e => !goneE mg e) (e2 : y.ds = ts[k].ds) => held_gone_snoc HHE.out hlt e1 e2)
      have HAP := Lib.hid (fun W (hb : Below wr.heap.size wr W) => Apply_yes ts[k] md mf mg W (((HA.out.each _ (List.getElem_mem hlt)).below HBW.out).below hb) hdl ((HDA.out.below HBW.out).below hb) (tlsOk_at HOK.out hlt) HDO.out)
      generalize ts[k] = t at *
      obtain ⟨pa, pc, pe, pd, pf, pg⟩ := t
      dsimp only [Tl.cells] at *
      obtain ⟨ge, hge⟩ : ∃ x, x = pe.filter fun e => !goneE mg e := ⟨_, rfl⟩
      rw [← hge] at HST HAP
      clear hge
      go_upto_region 7 with fail
      refine name_world ?_
      intro w2 hw2
      have H8 := Lib.hid (show w2.heap[wr.heap.size]? = some (.cells #[.slice pa pe.length pc, .slice pd pg.length pf] tlbT (0, 0)) by rw [hw2]; first | exact heap_new _ _ | exact (by repeat (first | (with_reducible assumption) | (exact heap_at _ _ (by simp; done)) | (with_reducible refine heap_old_is _ _ (by (first | omega | (simp; done) | (simp; omega))) ?_) | (with_reducible refine heap_far_is (by (first | omega | (simp; done) | (simp; omega))) ?_))))
      have HB2 := Lib.hid (show Below wr.heap.size wr w2 by rw [hw2]; repeat' (first | (with_reducible exact Below.refl _ _) | (with_reducible (refine Below.setCell ?_ ?_ _)) | (with_reducible (refine Below.alloc ?_ ?_ _)) | (with_reducible (refine Below.drew ?_)) | omega | (simp; done) | (simp; omega)))
      have hs2 : wr.heap.size + 1 ≤ w2.heap.size := by rw [hw2]; simp
      clear hw2 t0 t1
      have m1' := (HB2.out.cell (p := ⟨bm, om + m * 2 + 1, none⟩) hbr).trans m1
      have hbr2 : bm < w2.heap.size := by omega
      have e8 := fun j => cell_of_row _ _ j _ _ _ H8.out
      have ef8 := fun j => frozen_of_row _ _ j _ _ H8.out
      have hl8 := heap_lt H8.out
      clear m1
      have HSTL : Stays (tlPs w2.heap.size w2.heap.size ge pg 0 6 7 8 10 11 36 29 37 9 []) := stays_tl stays_nil
     
      refine wp_region_lex [36, 29, 37, 9] (PromC (w2) (tlPs w2.heap.size w2.heap.size ge pg 0 6 7 8 10 11 36 29 37 9 [])) (promC_looks (by rfl)) (by kernel_rfl) (by kernel_rfl) (by kernel_rfl) (promC_start _) ?_
      repeat (first
        | (refine wpLex_promMake 0 _ [] HSTL rfl (by rfl) (by rfl) (by rfl) (by rfl) (by rfl) (by rfl) (by rfl) ?_ ?_
           · intro u w' hb hk
             have hsz := hb.size
             try simp at hsz
             have hcw := fun b o (h : b < (w2).heap.size) => hb.cell (p := ⟨b, o, none⟩) h
             have hfw := fun b o (h : b < (w2).heap.size) => hb.frozen (p := ⟨b, o, none⟩) h
             try simp only [putS, List.foldl, put_lit, List.set]
             go_simp
             (with_reducible refine Calls.mono (HAP.out _ (by repeat' (first | (with_reducible exact Below.refl _ _) | (with_reducible (refine Below.setCell ?_ ?_ _)) | (with_reducible (refine Below.alloc ?_ ?_ _)) | (with_reducible (refine Below.drew ?_)) | (with_reducible (refine below_via ?_ hb ?_)) | (with_reducible (refine below_via ?_ HB2.out ?_)) | omega | (simp; done) | (simp; omega)))) ?_)
             rintro e w2 ⟨A, c, A', c', rfl, h1, h2, hb2⟩
             exact ⟨_, rfl, ⟨_, rfl⟩, ⟨A, c, A', c', rfl, h1.mono (Nat.le_trans hb.size (Nat.le_add_right _ 3)), h2.mono (Nat.le_trans hb.size (Nat.le_add_right _ 3))⟩, hb2⟩
           (conv => arg 9; simp only [put_lit, put_lit_none, List.set]))
        | (refine wpLex_promMake 1 _ [0] HSTL rfl (by rfl) (by rfl) (by rfl) (by rfl) (by rfl) (by rfl) (by rfl) ?_ ?_
           · intro u w' hb hk
             have hsz := hb.size
             try simp at hsz
             have hcw := fun b o (h : b < (w2).heap.size) => hb.cell (p := ⟨b, o, none⟩) h
             have hfw := fun b o (h : b < (w2).heap.size) => hb.frozen (p := ⟨b, o, none⟩) h
             try simp only [putS, List.foldl, put_lit, List.set]
             obtain ⟨A, c, A', c', e0, h1, h2⟩ := (hk 0 (by simp) _ rfl).2
             have e0' : u 36 = _ := e0
             rw [e0']
             go_simp
             exact ⟨⟨_, rfl⟩, ⟨A, c, A', c', rfl, h1, h2⟩, Below.refl _ _⟩
           (conv => arg 9; simp only [put_lit, put_lit_none, List.set]))
        | (refine wpLex_promMake 2 _ [1] HSTL rfl (by rfl) (by rfl) (by rfl) (by rfl) (by rfl) (by rfl) (by rfl) ?_ ?_
           · intro u w' hb hk
             have hsz := hb.size
             try simp at hsz
             have hcw := fun b o (h : b < (w2).heap.size) => hb.cell (p := ⟨b, o, none⟩) h
             have hfw := fun b o (h : b < (w2).heap.size) => hb.frozen (p := ⟨b, o, none⟩) h
             try simp only [putS, List.foldl, put_lit, List.set]
             obtain ⟨A, c, A', c', e1, h1, h2⟩ := (hk 1 (by simp) _ rfl).2
             have e1' : u 29 = _ := e1
             rw [e1']
             go_simp
             exact ⟨trivial, ⟨A, c, A', c', rfl, h1, h2⟩, Below.refl _ _⟩
           (conv => arg 9; simp only [put_lit, put_lit_none, List.set]))
        | (refine wpLex_promUseV [1] HSTL (by rfl) (by rfl) (by rfl) ?_
           apply Exists.intro
           refine ⟨?_, ?_⟩
           · intro u w' hb hk
             have hsz := hb.size
             try simp at hsz
             have hcw := fun b o (h : b < (w2).heap.size) => hb.cell (p := ⟨b, o, none⟩) h
             have hfw := fun b o (h : b < (w2).heap.size) => hb.frozen (p := ⟨b, o, none⟩) h
             try simp only [putS, List.foldl, put_lit, List.set]
             obtain ⟨x, e1⟩ := hk 1 (by simp) _ rfl
             have e1' : u 29 = _ := e1
             rw [e1']
             go_simp
             exact ⟨rfl, Below.refl _ _⟩
           (conv => arg 9; simp only [put_lit, put_lit_none, List.set]))
        | (refine wpLex_promMake 3 _ [] HSTL rfl (by rfl) (by rfl) (by rfl) (by rfl) (by rfl) (by rfl) (by rfl) ?_ ?_
           · intro u w' hb hk
             have hsz := hb.size
             try simp at hsz
             have hcw := fun b o (h : b < (w2).heap.size) => hb.cell (p := ⟨b, o, none⟩) h
             have hfw := fun b o (h : b < (w2).heap.size) => hb.frozen (p := ⟨b, o, none⟩) h
             try simp only [putS, List.foldl, put_lit, List.set]
             go_simp
             exact ⟨trivial, ⟨_, rfl, hsz, heap_new _ _⟩, (Below.refl _ _).alloc (Nat.le_refl _) _⟩
           (conv => arg 9; simp only [put_lit, put_lit_none, List.set]))
        | (refine wpLex_promStore 4 _ [2, 3] rfl (by rfl) (by rfl) (by rfl) (by rfl) (by rfl) (by rfl) ?_ ?_
           · intro u w' hb hk
             have hsz := hb.size
             try simp at hsz
             have hcw := fun b o (h : b < (w2).heap.size) => hb.cell (p := ⟨b, o, none⟩) h
             have hfw := fun b o (h : b < (w2).heap.size) => hb.frozen (p := ⟨b, o, none⟩) h
             try simp only [putS, List.foldl, put_lit, List.set]
             obtain ⟨g, A, c, A', c', e2, e3, hz, hP, hB⟩ := put_step hb (hk 2 (by simp) _ rfl).2 (hk 3 (by simp) _ rfl).2
             have e2' : u 37 = _ := e2
             have e3' : u 9 = _ := e3
             have hP2 : PutF _ _ _ _ (u 9) _ := hP
             rw [e3'] at hP2
             rw [e2', e3']
             have hzc := fun j => cell_of_row _ _ j _ _ _ hz
             have hzf := fun j => frozen_of_row _ _ j _ _ hz
             go_simp
             first | exact trivial | exact ⟨trivial, hP2, hB⟩ | exact ⟨rfl, trivial, hP2, hB⟩)
        | (refine wpLex_pass (by rfl) (passes_prom HSTL (by rfl)) ?_; (conv => arg 9; simp only [put_lit, put_lit_none, List.set]))
        | (refine wpLex_promUse [] HSTL (by rfl) (by rfl) (by rfl) ?_
           apply Exists.intro
           refine ⟨?_, ?_⟩
           · intro u w' hb _
             have hsz := hb.size
             try simp at hsz
             have hcw := fun b o (h : b < (w2).heap.size) => hb.cell (p := ⟨b, o, none⟩) h
             have hfw := fun b o (h : b < (w2).heap.size) => hb.frozen (p := ⟨b, o, none⟩) h
             try simp only [putS, List.foldl, put_lit, List.set]
             go_simp
             first
               | exact ⟨rfl, Below.refl _ _⟩
               | exact Below.refl _ _
               | exact rfl
           (conv => arg 9; simp only [put_lit, put_lit_none, List.set])))
      refine wpLex_nil ?_
      intro wh bh dh hdh hCh hoh
      obtain ⟨uh, rfl, hbh, hkh⟩ := promC_end hCh hdh hoh
      clear hCh hoh hdh dh
      simp only [putS, List.foldl, put_lit, List.set]
      have hsh := hbh.size
      try simp at hsh
      have hch := fun b o (h : b < (w2).heap.size) => hbh.cell (p := ⟨b, o, none⟩) h
      have hfh := fun b o (h : b < (w2).heap.size) => hbh.frozen (p := ⟨b, o, none⟩) h
      have HBh := Lib.hid hbh
      clear hbh
      obtain ⟨gh, Ah, ch, Bh, dh, eh, hgh, hxh, hoh, hih⟩ := (hkh 4 _ rfl (of_decide_eq_true (by rfl)) rfl).2
      have eh' : uh 9 = _ := eh
      rw [eh']
      clear hkh
      generalize uh 36 = xh36 at *
      generalize uh 29 = xh29 at *
      generalize uh 37 = xh37 at *
      clear eh eh' uh
      have hlh := heap_lt hxh
      have HXh := Lib.hid hxh
      have HOh := Lib.hid hoh
      have HIh := Lib.hid hih
      clear hxh hoh hih
     
      clear hch hfh e8 ef8 m1' HAP HSTL H8
      have HBR := Lib.hid (below_via HB2.out HBh.out HB2.out.size)
      have HT1 := Lib.hid (HTO.out.below HBR.out)
      obtain ⟨ts2, hts2⟩ : ∃ x, x = ts' ++ [(⟨Ah, ch, ge, Bh, dh, pg⟩ : Tl)] := ⟨_, rfl⟩
      have HT2 := Lib.hid hts2
      have hl2 : ts2.length ≤ k + 1 := by rw [hts2, List.length_append]; simp; omega
      have hg2 : k + 1 ≤ ts2.length := by rw [hts2, List.length_append]; simp; omega
      clear hts2
      have eh := fun j => cell_of_row _ _ j _ _ _ HXh.out
      have efh := fun j => frozen_of_row _ _ j _ _ HXh.out
     
      go_upto_region 9 with (at_builtin; refine wpList_one rfl (.tmp 39) (.tmp 41) _ rfl w.heap.size tlbT j0 _ 2 48 Try.underlying22 HI0.out HZ0.out HZ1.out HZ2.out rfl (by omega) tl_len tl_ones ts' ts2 ⟨Ah, ch, ge, Bh, dh, pg⟩ HT2.out A' c' rfl (HT1.out.row.alloc _) _ rfl (heap_new _ _) (by simp only [maxLen]; omega) (by omega) (by simp; omega) ?_; intro A2 c2 w3 ho2 hb3 hk2; have HO2 := Lib.hid ho2; have HB3 := Lib.hid hb3; have HK2 := Lib.hid hk2; have hs3 := hb3.size; clear ho2 hb3 hk2; (try simp at hs3))
     
      have HT3 := Lib.hid (show TlsOwn w3 w.heap.size A2 c2 ts2 from TlsOwn.snoc (HT1.out.below ((Below.refl _ _).alloc (Nat.le_refl _) _)) HT2.out ((HOh.out.mono (by omega)).alloc _) ((HIh.out.mono (by omega)).alloc _) HO2.out HK2.out)
      have HH3 := Lib.hid (show held ts2 = (held (ts.take (k + 1))).map (goneT mg) by rw [HT2.out]; exact HST.out _ rfl rfl)
      have HB4 := Lib.hid (below_via ((below_via HBW.out HBR.out HBW.out.size).alloc (by omega) _) HB3.out (Nat.le_refl _))
      clear HT1 HO2 HK2 HB3 HST HOh HIh HTO eh efh
      go_wp2_with fail
      go_roundg (ts.length - (k + 1))
      case rel => exact ⟨k + 1, A2, c2, ts2, by omega, rfl, by go_num, rfl, hl2, hg2, HT3.out, HH3.out, HB4.out⟩
      case measure => have := HGK.out; omega
    · have hki : ¬ (k : Int) < ts.length := by omega
      have hmt : m < ts'.length := by omega
      obtain ⟨g, hge, hgB, cs, hgc⟩ := HTO.out.block_ (by omega)
      subst hge
      have hmi : (m : Int) < ts'.length := by omega
      have HSK := Lib.hid (HTO.out.strike hmt)
      obtain ⟨s0, s1⟩ : (∃ u, wr.cell? ⟨g, m * 2, none⟩ = some u) ∧ ∃ u, wr.cell? ⟨g, m * 2 + 1, none⟩ = some u := by
        obtain ⟨b, off, e, _, c0, c1⟩ := tl_cells (HTO.out.row.at_ tl_len) (Below.refl _ _) hmt
        injection e with e
        injection e with e1 e2
        subst e1 e2
        rw [Nat.zero_add] at c0 c1
        exact ⟨⟨_, c0⟩, ⟨_, c1⟩⟩
      obtain ⟨u0, s0⟩ := s0
      obtain ⟨u1, s1⟩ := s1
      have gf := fun j => frozen_of_row _ _ j _ _ hgc
      clear hgc
      have HH3 := Lib.hid (show held (noDueT ts' m) = noDue ((held ts).map (goneT mg)) m by rw [held_noDue, HHE.out, List.take_of_length_le (by omega)])
      have hln := noDueT_len ts' m
      have HBS := Lib.hid (show Below w.heap.size w (wr.setCell ⟨g, m * 2 + 1, none⟩ (.slice none 0 0)) from HBW.out.setCell hgB _)
     
      go_wp2_with fail
     
      refine bodyPost_ret (v := .tuple #[.slice (some ⟨g, 0, none⟩) ts'.length c', .int .i64 0]) (by simp [results, Try.results44, go_sem, *]) rfl ⟨some ⟨g, 0, none⟩, c', noDueT ts' m, by rw [noDueT_len], HSK.out, HH3.out, HBS.out⟩

end Go.Proofs.Ytbaninglcafhhaa
