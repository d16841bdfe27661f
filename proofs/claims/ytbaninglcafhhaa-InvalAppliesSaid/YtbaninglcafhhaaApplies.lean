/-
  'InvalApplies' returns true, and of what was there nothing has turned. Conditions: the argument reads as such.
-/
import Derived.Test.YtbaninglcafhhaaInvT
import Derived.Test.YtbaninglcafhhaaLeft
import Derived.Test.YtbaninglcafhhaaRApp
import Derived.Test.YtbaninglcafhhaaPair
import Derived.Test.YtbaninglcafhhaaLater
import Derived.Test.YtbaninglcafhhaaLzK
import Derived.Deep.DeepCutAuto
namespace Go.Proofs.Ytbaninglcafhhaa
open Go.RowKit

theorem at_take {α : Type} {w : World} {A : Option Addr} {size : Nat} {f : α → List Value} {l : List α} (h : At w A size f l) (m : Nat) : At w A size f (l.take m) := fun hl => by
  have hl2 : 0 < l.length := by rw [List.length_take] at hl; omega
  obtain ⟨b, off, e, hb, hc⟩ := h hl2
  refine ⟨b, off, e, hb, fun i hi j u hu => ?_⟩
  have hi2 : i < l.length := by rw [List.length_take] at hi; omega
  rw [List.getElem_take] at hu
  exact hc i hi2 j u hu

/-- What both answers are, whatever comes. -/
def okA (es : List Ent) (ds l : List Inv) : Bool := tlbOk es ds && l.all dueOk
def appE (es : List Ent) (ds l : List Inv) : List Ent := if okA es ds l then es.filter fun e => !goneE l e else []
def appD (es : List Ent) (ds l : List Inv) : List Inv := if okA es ds l then ds else []
theorem app_yes {es : List Ent} {ds l : List Inv} (h : okA es ds l = true) : appE es ds l = (es.filter fun e => !goneE l e) ∧ appD es ds l = ds := by
  unfold appE appD
  rw [if_pos h, if_pos h]
  exact ⟨rfl, rfl⟩
theorem app_no {es : List Ent} {ds l : List Inv} (h : okA es ds l = false) : appE es ds l = [] ∧ appD es ds l = [] := by
  unfold appE appD
  rw [h]
  exact ⟨rfl, rfl⟩
theorem app_len (es : List Ent) (ds l : List Inv) : (appE es ds l).length ≤ 8 ∧ (appD es ds l).length ≤ 8 := by
  cases h : okA es ds l
  · obtain ⟨h1, h2⟩ := app_no h
    rw [h1, h2]; exact ⟨by simp, by simp⟩
  · obtain ⟨h1, h2⟩ := app_yes h
    rw [h1, h2]
    unfold okA at h
    simp only [Bool.and_eq_true] at h
    obtain ⟨k1, k2, _, _⟩ := tlbOk_ents h.1
    exact ⟨Nat.le_trans (List.length_filter_le _ _) k1, k2⟩
theorem apply_all (t : Tl) (L : Option Addr) (cl : Nat) (l : List Inv) (w : World) (h : TlAt w t) (hl : l.length ≤ 140737488355328) (hL : At w L 4 Inv.cells l) :
    Calls Try.prog 36 #[.agg t.cells.toArray, .slice L l.length cl] w fun y w' => ∃ A c B d, y = .returned (.tuple #[.agg #[.slice A (appE t.es t.ds l).length c, .slice B (appD t.es t.ds l).length d], .int .i64 (okErr (okA t.es t.ds l))]) ∧
      Own w' (w.heap.size + 3) entT 14 Ent.cells (appE t.es t.ds l) A c ∧ Own w' (w.heap.size + 3) invT 4 Inv.cells (appD t.es t.ds l) B d ∧ Below w.heap.size w w' := by
  cases hk : okA t.es t.ds l
  · obtain ⟨h1, h2⟩ := app_no hk
    rw [h1, h2]
    exact (Apply_no t L cl l w h hl hL hk).mono fun y w' ⟨e, hb⟩ => ⟨none, 0, none, 0, e, World.ownsRow_nil _ _ _ _, World.ownsRow_nil _ _ _ _, hb⟩
  · obtain ⟨h1, h2⟩ := app_yes hk
    rw [h1, h2]
    unfold okA at hk
    simp only [Bool.and_eq_true] at hk
    exact Apply_yes t L cl l w h hl hL hk.1 hk.2

theorem eqTLB_two (es : List Ent) (ds : List Inv) (A : Option Addr) (c : Nat) (B : Option Addr) (d : Nat) (A' : Option Addr) (c' : Nat) (B' : Option Addr) (d' : Nat) (w : World) (h1 : TlAt w ⟨A, c, es, B, d, ds⟩) (h2 : TlAt w ⟨A', c', es, B', d', ds⟩) :
    Calls Try.prog 39 #[.agg #[.slice A es.length c, .slice B ds.length d], .agg #[.slice A' es.length c', .slice B' ds.length d']] w fun e w' => e = .returned (.bool true) ∧ Below w.heap.size w w' :=
  EqTLB_same ⟨A, c, es, B, d, ds⟩ ⟨A', c', es, B', d', ds⟩ w h1 h2 rfl rfl
theorem lat_no {es : List Ent} {ds : List Inv} {i : Inv} (h : (tlbOk es ds && dueOk i) = false) : latX es ds i = 1 ∧ latE es ds i = [] ∧ latD es ds i = [] := by
  have h0 : latX es ds i = 1 := by unfold latX; rw [h]; rfl
  exact ⟨h0, by unfold latE; rw [h0]; rfl, by unfold latD; rw [h0]; rfl⟩
theorem lat_yes {es : List Ent} {ds : List Inv} {i : Inv} (h : (tlbOk es ds && dueOk i) = true) (h8 : ds.length < 8) : latX es ds i = 0 ∧ latE es ds i = es ∧ latD es ds i = ds ++ [i] := by
  have h0 : latX es ds i = 0 := by unfold latX; rw [h, if_pos rfl, if_pos h8]
  exact ⟨h0, by unfold latE; rw [if_pos h0], by unfold latD; rw [if_pos h0]⟩
theorem lat_full {es : List Ent} {ds : List Inv} {i : Inv} (h : (tlbOk es ds && dueOk i) = true) (h8 : ¬ ds.length < 8) : latX es ds i = 5 ∧ latE es ds i = [] ∧ latD es ds i = [] := by
  have h0 : latX es ds i = 5 := by unfold latX; rw [h, if_pos rfl, if_neg h8]
  exact ⟨h0, by unfold latE; rw [h0]; rfl, by unfold latD; rw [h0]; rfl⟩
theorem lat_len (es : List Ent) (ds : List Inv) (i : Inv) : (latE es ds i).length ≤ es.length ∧ (latD es ds i).length ≤ ds.length + 1 := by
  unfold latE latD
  by_cases h : latX es ds i = 0
  · rw [if_pos h, if_pos h]; exact ⟨Nat.le_refl _, by simp⟩
  · rw [if_neg h, if_neg h]; exact ⟨by simp, by simp⟩
def SlI (B m : Nat) (l : List Inv) (v : Value) (w : World) : Prop := ∃ A c, v = .slice A m c ∧ Own w B invT 4 Inv.cells l A c
theorem SlI.keep {B m : Nat} {l : List Inv} {v : Value} {w w' : World} (h : SlI B m l v w) (hb : Below w.heap.size w w') : SlI B m l v w' := by
  obtain ⟨A, c, e, h1⟩ := h
  exact ⟨A, c, e, h1.below hb (Nat.le_refl _)⟩
def ps9 (B m : Nat) (es : List Ent) (ds l : List Inv) : List Prom := [⟨5, none, 44, NoV, ResF B es ds⟩, ⟨10, none, 49, NoV, SlI B m l⟩, ⟨11, none, 5, NoV, NewF B⟩]
theorem stays9 (B m : Nat) (es : List Ent) (ds l : List Inv) : Stays (ps9 B m es ds l) :=
  stays_cons (fun _ _ _ h hb => ResF.keep h hb) (stays_cons (fun _ _ _ h hb => SlI.keep h hb) (stays_cons (fun _ _ _ h hb => NewF.keep h hb) stays_nil))

set_option maxRecDepth 100000 in
set_option maxHeartbeats 16000000 in
theorem applies_walk (q : Ask) (w : World) (hq : AskAt w q) :
    Calls Try.prog 12 #[.agg q.cells.toArray] w fun e w' => e = .returned (.bool true) ∧ Below w.heap.size w w' := by
  have HHV := Lib.hid (fun W (hb : Below w.heap.size w W) => heavy10_any q W (hq.below hb))
  have HI := Lib.hid hq.iat
  have HT := Lib.hid hq.tat
  have HTG := Lib.hid (fun t ht => (hq.tok t ht).at_)
  have hil := hq.ilen
  have hicc := hq.icap
  have htl := hq.tlen
  clear hq
  obtain ⟨ta, tc, ts, ia, ic, is_, ea, ec, es⟩ := q
  simp only [Ask.cells] at *
  have HWA := Lib.hid (fun W => wakes10_any W)
  have HNU := Lib.hid (fun (n : Int) W => dnum_any n W)
  go_enter Try.func12, Try.ntmps12
  go_wp2_with fail
  refine (HHV.out _ (by repeat' (first | (with_reducible exact Below.refl _ _) | (with_reducible (refine Below.setCell ?_ ?_ _)) | (with_reducible (refine Below.alloc ?_ ?_ _)) | (with_reducible (refine Below.drew ?_)) | omega | (simp; done) | (simp; omega)))).mono ?_
  rintro e w1 ⟨b, hlight, rfl, hb1⟩
  have HLI := Lib.hid hlight
  clear hlight HHV
  have hs1 := hb1.size
  simp at hs1
  have hc1 := fun o => (bcell hb1).1 w.heap.size o (by simp)
  have hf1 := fun o => (bcell hb1).2.1 w.heap.size o (by simp)
  have hz1 : w.heap.size < w1.heap.size := by omega
  have HB1 := Lib.hid hb1
  clear hb1
  cases b
  case true =>
    go_wp2
    go_ret
    exact ⟨rfl, (by repeat' (first | (with_reducible exact Below.refl _ _) | (with_reducible (refine Below.setCell ?_ ?_ _)) | (with_reducible (refine Below.alloc ?_ ?_ _)) | (with_reducible (refine Below.drew ?_)) | (with_reducible (refine below_via ?_ HB1.out ?_)) | omega | (simp; done) | (simp; omega)))⟩
  case false =>
    obtain ⟨_, hi600, _, hw600⟩ := HLI.out rfl
    have HW6 := Lib.hid hw600
    clear hw600 HLI
    dsimp only at hi600
    go_wp2_with fail
    clear hc1 hf1
    have HX := Lib.hid (show w1.heap[w.heap.size]? = some (.cells #[.slice ta ts.length tc, .slice ia is_.length ic, .slice ea es.length ec] askT (0, 0)) from (by repeat (first | (with_reducible assumption) | (with_reducible refine heap_below_is HB1.out (by (first | omega | (simp; done) | (simp; omega))) ?_) | (exact heap_at _ _ (by simp; done)) | (with_reducible refine heap_old_is _ _ (by (first | omega | (simp; done) | (simp; omega))) ?_) | (with_reducible refine heap_far_is (by (first | omega | (simp; done) | (simp; omega))) ?_))))
    have HB := Lib.hid ((by repeat' (first | (with_reducible exact Below.refl _ _) | (with_reducible (refine Below.setCell ?_ ?_ _)) | (with_reducible (refine Below.alloc ?_ ?_ _)) | (with_reducible (refine Below.drew ?_)) | (with_reducible (refine below_via ?_ HB1.out ?_)) | omega | (simp; done) | (simp; omega))) : Below w.heap.size w w1)
    go_loopg [3] 5 (fun gg i wr => ∃ k : Nat, k ≤ ts.length ∧ k ≤ 5 ∧ gg = 5 - k ∧ i = .int .i64 k ∧ Below w1.heap.size w1 wr)
    case atStart => exact ⟨0, Nat.zero_le _, Nat.zero_le _, rfl, rfl, Below.refl _ _⟩
    case round =>
      obtain ⟨k, hk, hk12, hgk, rfl, hbw⟩ := hrel
      have HGK := Lib.hid hgk
      clear hgk
      have HXR := Lib.hid ((hbw.block _ hz1).trans HX.out)
      have HBW := Lib.hid hbw
      have hsw := hbw.size
      clear hbw
      have e0 := cell_of_row _ _ 0 _ _ _ HXR.out
      have ef := fun j => frozen_of_row _ _ j _ _ HXR.out
      have hxl := heap_lt HXR.out
      by_cases hlt : k < ts.length ∧ k < 5
      · obtain ⟨hlt, hlt12⟩ := hlt
        have hki : (k : Int) < ts.length := by omega
        have q12 : decide ((k : Int) < 5) = true := by simp; omega
        go_wp2_with fail
        clear e0 ef
        obtain ⟨wo, rfl⟩ : ∃ wo : World, wo = wr := ⟨_, rfl⟩
        go_loopg [4] 12 (fun gg j wr => ∃ m : Nat, m ≤ is_.length + 1 ∧ m ≤ 12 ∧ gg = 12 - m ∧ j = .int .i64 m ∧ Below wo.heap.size wo wr)
        case atStart => exact ⟨0, Nat.zero_le _, Nat.zero_le _, rfl, rfl, Below.refl _ _⟩
        case round =>
          obtain ⟨m, hm, hm12, hgm, rfl, hbv⟩ := hrel
          have HGM := Lib.hid hgm
          clear hgm
          have HXV := Lib.hid ((hbv.block _ hxl).trans HXR.out)
          have HBV := Lib.hid hbv
          have hsv := hbv.size
          clear hbv
          have HBR := Lib.hid ((by repeat' (first | (with_reducible exact Below.refl _ _) | (with_reducible (refine Below.setCell ?_ ?_ _)) | (with_reducible (refine Below.alloc ?_ ?_ _)) | (with_reducible (refine Below.drew ?_)) | (with_reducible (refine below_via ?_ HBV.out ?_)) | (with_reducible (refine below_via ?_ HBW.out ?_)) | (with_reducible (refine below_via ?_ HB.out ?_)) | omega | (simp; done) | (simp; omega))) : Below w.heap.size w wr)
          have e0 := cell_of_row _ _ 0 _ _ _ HXV.out
          have e1 := cell_of_row _ _ 1 _ _ _ HXV.out
          have ef := fun j => frozen_of_row _ _ j _ _ HXV.out
          have hxv := heap_lt HXV.out
          by_cases hmt : m ≤ is_.length ∧ m < 12
          · obtain ⟨hmt, hmt12⟩ := hmt
            have hmi : (m : Int) ≤ is_.length := by omega
            have q13 : decide ((m : Int) < 12) = true := by simp; omega
            obtain ⟨bt, ot, rfl, hbt, t0, t1⟩ := tl_cells HT.out HBR.out hlt
            have T0 := Lib.hid t0
            have T1 := Lib.hid t1
            have htat := HTG.out ts[k] (List.getElem_mem hlt)
            have hswr := HBR.out.size
            have hbt2 : bt < wr.heap.size := by omega
            have hln := HW6.out ts[k] (List.getElem_mem hlt)
            generalize ts[k] = t at *
            have HTA := Lib.hid htat
            clear htat
            obtain ⟨pa, pc, pe, pd, pf, pg⟩ := t
            dsimp only [Tl.cells] at *
            obtain ⟨il, hil2⟩ : ∃ x, x = is_.take m := ⟨_, rfl⟩
            have HIL := Lib.hid (show il.length = m by rw [hil2, List.length_take]; omega)
            have HIT := Lib.hid (show At w ia 4 Inv.cells il by rw [hil2]; exact at_take HI.out m)
            have HITK := Lib.hid hil2
            clear hil2
            go_upto_region 9 with fail
            have HCP := Lib.hid (fun W (hb : Below wr.heap.size wr W) => CopyTLB_any ⟨pa, pc, pe, pd, pf, pg⟩ W ((HTA.out.below HBR.out).below hb) (by dsimp only; omega) (by dsimp only; omega))
            have HCI := Lib.hid (fun W (hb : Below wr.heap.size wr W) => Copy_inv ia ic il W (by rw [HIL.out]; omega) ((HIT.out.below HBR.out).below hb))
            dsimp only [Tl.cells] at HCP
            rw [HIL.out] at HCI
            have hmic : m ≤ ic := by omega
            have HST := stays9 wr.heap.size m pe pg il
            refine wp_region_lex_tail 12 [44, 49, 5] (PromC (wr) (ps9 wr.heap.size m pe pg il)) (promC_looks (by rfl)) (by kernel_rfl) (by kernel_rfl) (by kernel_rfl) (by kernel_rfl) (promC_start _) ?_
            repeat (first
              | (refine wpLex_promMake 0 _ [] HST rfl (by rfl) (by rfl) (by rfl) (by rfl) (by rfl) (by rfl) (by rfl) ?_ ?_
                 · intro u w' hb hk
                   have hsz := hb.size
                   try simp at hsz
                   have hcw := fun b o (h : b < (wr).heap.size) => hb.cell (p := ⟨b, o, none⟩) h
                   have hfw := fun b o (h : b < (wr).heap.size) => hb.frozen (p := ⟨b, o, none⟩) h
                   try simp only [putS, List.foldl, put_lit, List.set]
                   go_simp
                   (with_reducible refine Calls.mono (HCP.out _ (by repeat' (first | (with_reducible exact Below.refl _ _) | (with_reducible (refine Below.setCell ?_ ?_ _)) | (with_reducible (refine Below.alloc ?_ ?_ _)) | (with_reducible (refine Below.drew ?_)) | (with_reducible (refine below_via ?_ hb ?_)) | omega | (simp; done) | (simp; omega)))) ?_)
                   rintro e w2 ⟨A, c, B, d, rfl, h1, h2, hb2⟩
                   exact ⟨_, rfl, trivial, ⟨A, c, B, d, rfl, h1.mono (by omega), h2.mono (by omega)⟩, hb2⟩
                 (conv => arg 9; simp only [put_lit, put_lit_none, List.set]))
              | (refine wpLex_promMake 1 _ [] HST rfl (by rfl) (by rfl) (by rfl) (by rfl) (by rfl) (by rfl) (by rfl) ?_ ?_
                 · intro u w' hb hk
                   have hsz := hb.size
                   try simp at hsz
                   have hcw := fun b o (h : b < (wr).heap.size) => hb.cell (p := ⟨b, o, none⟩) h
                   have hfw := fun b o (h : b < (wr).heap.size) => hb.frozen (p := ⟨b, o, none⟩) h
                   try simp only [putS, List.foldl, put_lit, List.set]
                   go_simp
                   (with_reducible refine Calls.mono (HCI.out _ (by repeat' (first | (with_reducible exact Below.refl _ _) | (with_reducible (refine Below.setCell ?_ ?_ _)) | (with_reducible (refine Below.alloc ?_ ?_ _)) | (with_reducible (refine Below.drew ?_)) | (with_reducible (refine below_via ?_ hb ?_)) | omega | (simp; done) | (simp; omega)))) ?_)
                   rintro e w2 ⟨A, c, rfl, h1, hb2⟩
                   exact ⟨_, rfl, trivial, ⟨A, c, rfl, h1.mono (by omega)⟩, hb2⟩
                 (conv => arg 9; simp only [put_lit, put_lit_none, List.set]))
              | (refine wpLex_promMake 2 _ [] HST rfl (by rfl) (by rfl) (by rfl) (by rfl) (by rfl) (by rfl) (by rfl) ?_ ?_
                 · intro u w' hb hk
                   have hsz := hb.size
                   try simp at hsz
                   have hcw := fun b o (h : b < (wr).heap.size) => hb.cell (p := ⟨b, o, none⟩) h
                   have hfw := fun b o (h : b < (wr).heap.size) => hb.frozen (p := ⟨b, o, none⟩) h
                   try simp only [putS, List.foldl, put_lit, List.set]
                   go_simp
                   exact ⟨trivial, ⟨_, rfl, hsz, heap_new _ _⟩, (Below.refl _ _).alloc (Nat.le_refl _) _⟩
                 (conv => arg 9; simp only [put_lit, put_lit_none, List.set]))
              | (refine wpLex_pass (by rfl) (passes_prom HST (by rfl)) ?_; (conv => arg 9; simp only [put_lit, put_lit_none, List.set]))
              | (refine wpLex_promUse [] HST (by rfl) (by rfl) (by rfl) ?_
                 apply Exists.intro
                 refine ⟨?_, ?_⟩
                 · intro u w' hb _
                   have hsz := hb.size
                   try simp at hsz
                   have hcw := fun b o (h : b < (wr).heap.size) => hb.cell (p := ⟨b, o, none⟩) h
                   have hfw := fun b o (h : b < (wr).heap.size) => hb.frozen (p := ⟨b, o, none⟩) h
                   try simp only [putS, List.foldl, put_lit, List.set]
                   go_simp
                   first
                     | exact ⟨rfl, Below.refl _ _⟩
                     | exact Below.refl _ _
                     | exact rfl
                 (conv => arg 9; simp only [put_lit, put_lit_none, List.set])))
            refine wpLex_nil ?_
            intro wp bp dp hdp hCp hop
            obtain ⟨up, rfl, hbp, hkp⟩ := promC_end hCp hdp hop
            clear hCp hop hdp dp
            simp only [putS, List.foldl, put_lit, List.set]
            have hsp := hbp.size
            try simp at hsp
            have hcp := fun b o (h : b < (wr).heap.size) => hbp.cell (p := ⟨b, o, none⟩) h
            have hfp := fun b o (h : b < (wr).heap.size) => hbp.frozen (p := ⟨b, o, none⟩) h
            have HBp := Lib.hid hbp
            clear hbp
            simp only [List.drop]
            obtain ⟨Ap, cp, Bp, dp, ep, hop, hip⟩ := (hkp 0 _ rfl (of_decide_eq_true (by rfl)) rfl).2
            obtain ⟨Ar, cr, er, hor⟩ := (hkp 1 _ rfl (of_decide_eq_true (by rfl)) rfl).2
            obtain ⟨gp, ef', hgp, hxp⟩ := (hkp 2 _ rfl (of_decide_eq_true (by rfl)) rfl).2
            have ep' : up 44 = _ := ep
            have er' : up 49 = _ := er
            have ef'' : up 5 = _ := ef'
            rw [ep', er', ef'']
            clear hkp ep ep' er er' ef' ef'' up
            have hop1 := hop.ne_blk hxp (by decide)
            have hip1 := hip.ne_blk hxp (by decide)
            have hor1 := hor.ne_blk hxp (by decide)
            have zp := fun j => cell_of_row _ _ j _ _ _ hxp
            have zfp := fun j => frozen_of_row _ _ j _ _ hxp
            clear hcp hfp t0 t1 e0 e1 ef
            go_upto_region 10 with fail
            refine name_world ?_
            intro wa hwa
            have HXA := Lib.hid (show wa.heap[gp]? = some (.cells #[.slice Ap pe.length cp, .slice Bp pg.length dp] tlbT (0, 0)) by rw [hwa]; exact heap_set_same (heap_set_same hxp 0 _) 1 _)
            have HOA := Lib.hid (show Own wa wr.heap.size entT 14 Ent.cells pe Ap cp by rw [hwa]; exact (hop.set_ne hop1 _).set_ne hop1 _)
            have HIA := Lib.hid (show Own wa wr.heap.size invT 4 Inv.cells pg Bp dp by rw [hwa]; exact (hip.set_ne hip1 _).set_ne hip1 _)
            have HRA := Lib.hid (show Own wa wr.heap.size invT 4 Inv.cells il Ar cr by rw [hwa]; exact (hor.set_ne hor1 _).set_ne hor1 _)
            have HBA := Lib.hid (show Below wr.heap.size wr wa by rw [hwa]; repeat' (first | (with_reducible exact Below.refl _ _) | (with_reducible (refine Below.setCell ?_ ?_ _)) | (with_reducible (refine Below.alloc ?_ ?_ _)) | (with_reducible (refine Below.drew ?_)) | (with_reducible (refine below_via ?_ HBp.out ?_)) | omega | (simp; done) | (simp; omega)))
            have hga := heap_lt HXA.out
            clear hwa zp zfp hop hip hor hxp hop1 hip1 hor1 HBp HST HCP HCI
            have xa := fun j => cell_of_row _ _ j _ _ _ HXA.out
            have xfa := fun j => frozen_of_row _ _ j _ _ HXA.out
            have HAP := Lib.hid (fun W (hb : Below wa.heap.size wa W) => apply_all ⟨Ap, cp, pe, Bp, dp, pg⟩ Ar cr il W (TlAt.of_own (HOA.out.below hb (Nat.le_refl _)) (HIA.out.below hb (Nat.le_refl _)) (by omega) (by omega)) (by rw [HIL.out]; omega) ((HRA.out.below hb (Nat.le_refl _)).at_ inv_len))
            obtain ⟨hae, had⟩ := app_len pe pg il
            dsimp only [Tl.cells] at HAP
            rw [HIL.out] at HAP
            obtain ⟨xe, hxe⟩ : ∃ x, x = appE pe pg il := ⟨_, rfl⟩
            obtain ⟨xd, hxd⟩ : ∃ x, x = appD pe pg il := ⟨_, rfl⟩
            rw [← hxe] at HAP hae
            rw [← hxd] at HAP had
            have HXE := Lib.hid hxe
            have HXD := Lib.hid hxd
            clear hxe hxd
            go_wp2_with fail
            refine Calls.mono (HAP.out _ (by repeat' (first | (with_reducible exact Below.refl _ _) | (with_reducible (refine Below.setCell ?_ ?_ _)) | (with_reducible (refine Below.alloc ?_ ?_ _)) | (with_reducible (refine Below.drew ?_)) | omega | (simp; done) | (simp; omega)))) ?_
            rintro e w3 ⟨Ax, cx, Bx, dx, rfl, hox, hix, hb3⟩
            have hs3 := hb3.size
            try simp at hs3
            have hc3_0 := fun o => (bcell hb3).1 (gp) o (by first | omega | (simp; done) | (simp; omega))
            have hf3_0 := fun o => (bcell hb3).2.1 (gp) o (by first | omega | (simp; done) | (simp; omega))
            have hz3_0 := (bcell hb3).2.2 (gp) (by first | omega | (simp; done) | (simp; omega))
            have HB3 := Lib.hid hb3
            clear hb3
            have Hhox := Lib.hid hox
            clear hox
            have Hhix := Lib.hid hix
            clear hix
            have HXB := Lib.hid (show (∀ p : Addr, Ax = some p → p.block < w3.heap.size) ∧ (∀ p : Addr, Bx = some p → p.block < w3.heap.size) from ⟨fun p hp => (Hhox.out.block_ hp).2, fun p hp => (Hhix.out.block_ hp).2⟩)
            go_upto_region 12 with fail
            refine name_world ?_
            intro wb hwb
            have HX7 := Lib.hid (show wb.heap[w3.heap.size]? = some (.cells #[.slice Ax xe.length cx, .slice Bx xd.length dx] tlbT (0, 0)) by rw [hwb]; exact (by repeat (first | (with_reducible assumption) | (exact heap_at _ _ (by simp; done)) | (with_reducible refine heap_old_is _ _ (by (first | omega | (simp; done) | (simp; omega))) ?_) | (with_reducible refine heap_far_is (by (first | omega | (simp; done) | (simp; omega))) ?_))))
            have HX10 := Lib.hid (show wb.heap[w3.heap.size + 1]? = some (.cells #[.slice none 0 0, .slice none 0 0] tlbT (0, 0)) by rw [hwb]; exact (by repeat (first | (with_reducible assumption) | (exact heap_at _ _ (by simp; done)) | (with_reducible refine heap_old_is _ _ (by (first | omega | (simp; done) | (simp; omega))) ?_) | (with_reducible refine heap_far_is (by (first | omega | (simp; done) | (simp; omega))) ?_))))
            have HX5 := Lib.hid (show wb.heap[gp]? = some (.cells #[.slice Ap pe.length cp, .slice Bp pg.length dp] tlbT (0, 0)) by rw [hwb]; exact (by repeat (first | (with_reducible assumption) | (with_reducible exact HXA.out) | (with_reducible refine heap_below_is HB3.out (by (first | omega | (simp; done) | (simp; omega))) ?_) | (exact heap_at _ _ (by simp; done)) | (with_reducible refine heap_old_is _ _ (by (first | omega | (simp; done) | (simp; omega))) ?_) | (with_reducible refine heap_far_is (by (first | omega | (simp; done) | (simp; omega))) ?_))))
            have HOX := Lib.hid (show Own wb (wa.heap.size + 3) entT 14 Ent.cells xe Ax cx by rw [hwb]; exact (by repeat (first | (with_reducible exact Own.mono Hhox.out (by (first | omega | (simp; done) | (simp; omega)))) | (with_reducible refine Own.set_far ?_ (by (first | omega | (simp; done) | (simp; omega))) _) | (with_reducible refine Own.alloc ?_ _) | (with_reducible refine Own.drew ?_))))
            have HIX := Lib.hid (show Own wb (wa.heap.size + 3) invT 4 Inv.cells xd Bx dx by rw [hwb]; exact (by repeat (first | (with_reducible exact Own.mono Hhix.out (by (first | omega | (simp; done) | (simp; omega)))) | (with_reducible refine Own.set_far ?_ (by (first | omega | (simp; done) | (simp; omega))) _) | (with_reducible refine Own.alloc ?_ _) | (with_reducible refine Own.drew ?_))))
            have HBB := Lib.hid (show Below wr.heap.size wr wb by rw [hwb]; repeat' (first | (with_reducible exact Below.refl _ _) | (with_reducible (refine Below.setCell ?_ ?_ _)) | (with_reducible (refine Below.alloc ?_ ?_ _)) | (with_reducible (refine Below.drew ?_)) | (with_reducible (refine below_via ?_ HB3.out ?_)) | (with_reducible (refine below_via ?_ HBA.out ?_)) | omega | (simp; done) | (simp; omega)))
            have HBS := Lib.hid (show Below wa.heap.size wa wb by rw [hwb]; repeat' (first | (with_reducible exact Below.refl _ _) | (with_reducible (refine Below.setCell ?_ ?_ _)) | (with_reducible (refine Below.alloc ?_ ?_ _)) | (with_reducible (refine Below.drew ?_)) | (with_reducible (refine below_via ?_ HB3.out ?_)) | omega | (simp; done) | (simp; omega)))
            have hsb := HBB.out.size
            have h10b := heap_lt HX10.out
            clear hwb xa xfa hc3_0 hf3_0 hz3_0 HAP Hhox Hhix
            have HXS := Lib.hid ((HBB.out.block _ hxv).trans HXV.out)
            have s0 := cell_of_row _ _ 0 _ _ _ HXS.out
            have s1 := cell_of_row _ _ 1 _ _ _ HXS.out
            have sf := fun j => frozen_of_row _ _ j _ _ HXS.out
            have t0b := (HBB.out.cell (p := ⟨bt, ot + k * 2, none⟩) hbt2).trans T0.out
            have t1b := (HBB.out.cell (p := ⟨bt, ot + k * 2 + 1, none⟩) hbt2).trans T1.out
            have HRT := Lib.hid (fun W (hb : Below wb.heap.size wb W) => rTLB_any ⟨pa, pc, pe, pd, pf, pg⟩ W ((HTA.out.below HBR.out).below (below_via HBB.out hb hsb)))
            dsimp only [Tl.cells] at HRT
            go_wp2_with fail
            refine Calls.mono (HRT.out _ (Below.refl _ _)) ?_
            rintro e w4 ⟨rfl, hb4⟩
            have hs4 := hb4.size
            try simp at hs4
            have hc4_0 := fun o => (bcell hb4).1 (w.heap.size) o (by first | omega | (simp; done) | (simp; omega))
            have hf4_0 := fun o => (bcell hb4).2.1 (w.heap.size) o (by first | omega | (simp; done) | (simp; omega))
            have hz4_0 := (bcell hb4).2.2 (w.heap.size) (by first | omega | (simp; done) | (simp; omega))
            have HB4 := Lib.hid hb4
            clear hb4
           
            go_wp2_with fail
            go_loopw [11, 12] (fun v j wl => ∃ n : Nat, n ≤ m ∧ v = .bool (tlbOk pe pg && (il.take n).all dueOk) ∧ j = .int .i64 n ∧ Below wb.heap.size wb wl) (fun _ j _ => 12 - (intOf j).toNat)
            case atStart => exact ⟨0, Nat.zero_le _, by simp, rfl, HB4.out⟩
            case round =>
              obtain ⟨n, hn, rfl, rfl, hbl⟩ := hrel
              have HBL := Lib.hid hbl
              have hsl := hbl.size
              have HBW' := Lib.hid ((by repeat' (first | (with_reducible exact Below.refl _ _) | (with_reducible (refine Below.setCell ?_ ?_ _)) | (with_reducible (refine Below.alloc ?_ ?_ _)) | (with_reducible (refine Below.drew ?_)) | (with_reducible (refine below_via ?_ HBL.out ?_)) | (with_reducible (refine below_via ?_ HBB.out ?_)) | (with_reducible (refine below_via ?_ HBR.out ?_)) | omega | (simp; done) | (simp; omega))) : Below w.heap.size w wr)
              clear hbl
              by_cases hnm : n < m
              · have hnmi : (n : Int) < m := by omega
                have hnl : n < is_.length := by omega
                obtain ⟨bi, oi, rfl, hbi, hci⟩ := at_cells HI.out HBW'.out hnl
                have htk : il.take (n + 1) = il.take n ++ [is_[n]] := by
                  rw [HITK.out, List.take_take, List.take_take, Nat.min_eq_left (by omega), Nat.min_eq_left (by omega)]
                  exact List.take_succ_eq_append_getElem hnl
                have HTKN := Lib.hid htk
                clear htk
                generalize is_[n] = i at *
                have HRI := Lib.hid (fun W => rInval_any i W)
                obtain ⟨b0, b1, b2, b3⟩ := i
                dsimp only [Inv.cells] at hci HRI
                have i0 := hci 0 _ rfl
                have i1 := hci 1 _ rfl
                have i2 := hci 2 _ rfl
                have i3 := hci 3 _ rfl
                simp only [Nat.add_zero] at i0
                clear hci
                have HNX := Lib.hid (show (tlbOk pe pg && (il.take (n + 1)).all dueOk) = ((tlbOk pe pg && (il.take n).all dueOk) && dueOk ⟨b0, b1, b2, b3⟩) by rw [HTKN.out, List.all_append, List.all_cons, List.all_nil, Bool.and_true, Bool.and_assoc])
                generalize (tlbOk pe pg && (il.take n).all dueOk) = bb at *
                have sl1 := (HBL.out.cell (p := ⟨w.heap.size, 1, none⟩) (heap_lt HXS.out)).trans s1
                have slf := fun j => (HBL.out.frozen (p := ⟨w.heap.size, j, none⟩) (heap_lt HXS.out)).trans (sf j)
                cases bb
                · go_wp2
                  go_roundw
                  case rel => exact ⟨n + 1, hnm, by rw [HNX.out]; rfl, by go_num, HBL.out⟩
                  case measure => simp [intOf]; omega
                · go_wp2_with fail
                  refine Calls.mono (HRI.out _) ?_
                  rintro e w5 ⟨rfl, hb5⟩
                  have hs5 := hb5.size
                  try simp at hs5
                  have HB5 := Lib.hid hb5
                  clear hb5
                  go_wp2
                  go_roundw
                  case rel => exact ⟨n + 1, hnm, by rw [HNX.out]; rfl, by go_num, (by repeat' (first | (with_reducible exact Below.refl _ _) | (with_reducible (refine Below.setCell ?_ ?_ _)) | (with_reducible (refine Below.alloc ?_ ?_ _)) | (with_reducible (refine Below.drew ?_)) | (with_reducible (refine below_via ?_ HB5.out ?_)) | (with_reducible (refine below_via ?_ HBL.out ?_)) | omega | (simp; done) | (simp; omega)))⟩
                  case measure => simp [intOf]; omega
              · obtain rfl : n = m := by omega
                have HTM := Lib.hid (show il.take n = il by rw [← HIL.out, List.take_length])
                rw [HTM.out]
                have hok : (tlbOk pe pg && il.all dueOk) = okA pe pg il := rfl
                rw [hok]
                clear hok
               
                obtain ⟨wl, rfl⟩ : ∃ wl : World, wl = wr := ⟨_, rfl⟩
                have hml := heap_lt HXS.out
                have HLS := Lib.hid ((HBL.out.block _ hml).trans HXS.out)
                have HL5 := Lib.hid ((HBL.out.block _ (heap_lt HX5.out)).trans HX5.out)
                have HL7 := Lib.hid ((HBL.out.block _ (heap_lt HX7.out)).trans HX7.out)
                have HL10 := Lib.hid ((HBL.out.block _ h10b).trans HX10.out)
                have hbtb : bt < wb.heap.size := by omega
                have T0L := Lib.hid ((HBL.out.cell (p := ⟨bt, ot + n * 0 + (k * 2), none⟩) hbtb))
                have L0 := Lib.hid ((HBL.out.cell (p := ⟨bt, ot + k * 2, none⟩) hbtb).trans t0b)
                have L1 := Lib.hid ((HBL.out.cell (p := ⟨bt, ot + k * 2 + 1, none⟩) hbtb).trans t1b)
                have HOL := Lib.hid (HOX.out.below HBL.out (Nat.le_refl _))
                have HIL2 := Lib.hid (HIX.out.below HBL.out (Nat.le_refl _))
                have hbtl : bt < wl.heap.size := by omega
                clear T0L s0 s1 sf t0b t1b hc4_0 hf4_0 hz4_0 HRT
                obtain ⟨g9, hg9⟩ : ∃ b, okA pe pg il = b := ⟨_, rfl⟩
                rw [hg9]
                have HG9 := Lib.hid hg9
                clear hg9
                go_upto_if 77 with fail
                go_cut [9] from 88 to 88 (fun v W => ∃ A c B d, v = .int .i64 (okErr g9) ∧ W.heap[w3.heap.size + 1]? = some (.cells #[.slice A xe.length c, .slice B xd.length d] tlbT (0, 0)) ∧ Own W wl.heap.size entT 14 Ent.cells xe A c ∧ Own W wl.heap.size invT 4 Inv.cells xd B d ∧ Below (w3.heap.size + 1) wl W)
                case first =>
                  cases g9
                  · have hk9 := HG9.out
                    have hxe : xe = [] := HXE.out.trans (app_no hk9).1
                    have hxd : xd = [] := HXD.out.trans (app_no hk9).2
                    subst hxe hxd
                    clear hk9
                    go_wp2_with fail
                    go_meet
                    case rel => exact ⟨none, 0, none, 0, rfl, HL10.out, World.ownsRow_nil _ _ _ _, World.ownsRow_nil _ _ _ _, Below.refl _ _⟩
                  · have hk9 := HG9.out
                    have hok9 := hk9
                    unfold okA at hok9
                    simp only [Bool.and_eq_true] at hok9
                    obtain ⟨_, _, hen, _⟩ := tlbOk_ents hok9.1
                    have HRA2 := Lib.hid (fun W (hb : Below wl.heap.size wl W) => rApply_any ⟨pa, pc, pe, pd, pf, pg⟩ ia ic il W ((HTA.out.below HBR.out).below (below_via HBB.out (below_via HBL.out hb (by omega)) hsb)) (by rw [HIL.out]; omega) ((HIT.out.below HBR.out).below (below_via HBB.out (below_via HBL.out hb (by omega)) hsb)) (by dsimp only; omega) (by dsimp only; omega) hen (List.all_eq_true.1 hok9.2))
                    dsimp only [Tl.cells] at HRA2
                    rw [HIL.out] at HRA2
                    rw [← (app_yes hk9).1, ← HXE.out] at HRA2
                    clear hok9 hen hk9
                    go_upto_region 18 with fail
                    have HL5T : Stays [⟨9, none, 87, NoV, ResF wl.heap.size xe pg⟩] := stays_cons (fun _ _ _ h hb => ResF.keep h hb) stays_nil
                    have ls0 := cell_of_row _ _ 0 _ _ _ HLS.out
                    have ls1 := cell_of_row _ _ 1 _ _ _ HLS.out
                    have lsf := fun j => frozen_of_row _ _ j _ _ HLS.out
                    have hwl := heap_lt HLS.out
                    have l0 := L0.out
                    have l1 := L1.out
                    refine wp_region_lex_tail 10 [87] (PromC (wl) ([⟨9, none, 87, NoV, ResF wl.heap.size xe pg⟩])) (promC_looks (by rfl)) (by kernel_rfl) (by kernel_rfl) (by kernel_rfl) (by kernel_rfl) (promC_start _) ?_
                    repeat (first
                      | (refine wpLex_promMake 0 _ [] HL5T rfl (by rfl) (by rfl) (by rfl) (by rfl) (by rfl) (by rfl) (by rfl) ?_ ?_
                         · intro u w' hb hk
                           have hsz := hb.size
                           try simp at hsz
                           have hcw := fun b o (h : b < (wl).heap.size) => hb.cell (p := ⟨b, o, none⟩) h
                           have hfw := fun b o (h : b < (wl).heap.size) => hb.frozen (p := ⟨b, o, none⟩) h
                           try simp only [putS, List.foldl, put_lit, List.set]
                           go_simp
                           (with_reducible refine Calls.mono (HRA2.out _ (by repeat' (first | (with_reducible exact Below.refl _ _) | (with_reducible (refine Below.setCell ?_ ?_ _)) | (with_reducible (refine Below.alloc ?_ ?_ _)) | (with_reducible (refine Below.drew ?_)) | (with_reducible (refine below_via ?_ hb ?_)) | omega | (simp; done) | (simp; omega)))) ?_)
                           rintro e w2 ⟨A, c, B, d, rfl, h1, h2, hb2⟩
                           exact ⟨_, rfl, trivial, ⟨A, c, B, d, rfl, h1.mono (Nat.le_trans hb.size (Nat.le_add_right _ 2)), h2.mono (Nat.le_trans hb.size (Nat.le_add_right _ 2))⟩, hb2⟩
                         (conv => arg 9; simp only [put_lit, put_lit_none, List.set]))
                      | (refine wpLex_pass (by rfl) (passes_prom HL5T (by rfl)) ?_; (conv => arg 9; simp only [put_lit, put_lit_none, List.set]))
                      | (refine wpLex_promUse [] HL5T (by rfl) (by rfl) (by rfl) ?_
                         apply Exists.intro
                         refine ⟨?_, ?_⟩
                         · intro u w' hb _
                           have hsz := hb.size
                           try simp at hsz
                           have hcw := fun b o (h : b < (wl).heap.size) => hb.cell (p := ⟨b, o, none⟩) h
                           have hfw := fun b o (h : b < (wl).heap.size) => hb.frozen (p := ⟨b, o, none⟩) h
                           try simp only [putS, List.foldl, put_lit, List.set]
                           go_simp
                           first
                             | exact ⟨rfl, Below.refl _ _⟩
                             | exact Below.refl _ _
                             | exact rfl
                         (conv => arg 9; simp only [put_lit, put_lit_none, List.set])))
                    refine wpLex_nil ?_
                    intro wr br dr hdr hCr hor
                    obtain ⟨ur, rfl, hbr, hkr⟩ := promC_end hCr hdr hor
                    clear hCr hor hdr dr
                    simp only [putS, List.foldl, put_lit, List.set]
                    have hsr := hbr.size
                    try simp at hsr
                    have hcr := fun b o (h : b < (wl).heap.size) => hbr.cell (p := ⟨b, o, none⟩) h
                    have hfr := fun b o (h : b < (wl).heap.size) => hbr.frozen (p := ⟨b, o, none⟩) h
                    have HBr := Lib.hid hbr
                    clear hbr
                    simp only [List.drop]
                    obtain ⟨Aw, cw, Bw, dw, ep, how, hiw⟩ := (hkr 0 _ rfl (of_decide_eq_true (by rfl)) rfl).2
                    have ep' : ur 87 = _ := ep
                    rw [ep']
                    clear hkr ep ep' ur
                    have hxd : xd = pg := HXD.out.trans (app_yes HG9.out).2
                    subst hxd
                    have hr10 := (HBr.out.block _ (heap_lt HL10.out)).trans HL10.out
                    have r10 := fun j => cell_of_row _ _ j _ _ _ hr10
                    have rf10 := fun j => frozen_of_row _ _ j _ _ hr10
                   
                    clear ls0 ls1 lsf l0 l1 hcr hfr
                    go_wp2_with fail
                    go_meet
                    case rel => exact ⟨Aw, cw, Bw, dw, rfl, heap_set_same (heap_set_same hr10 0 _) 1 _, (how.set_far (heap_lt HL10.out) _).set_far (heap_lt HL10.out) _, (hiw.set_far (heap_lt HL10.out) _).set_far (heap_lt HL10.out) _, Below.setCell (Below.setCell (HBr.out.mono (Nat.le_of_lt (heap_lt HL10.out))) (Nat.le_refl _) _) (Nat.le_refl _) _⟩
                case rest =>
                 
                  obtain ⟨Aw, cw, Bw, dw, rfl, hw10, how, hiw, hbw2⟩ := hcut
                  obtain ⟨wd, rfl⟩ : ∃ wd : World, wd = wc := ⟨_, rfl⟩
                  have hgw3 : gp < w3.heap.size := by omega
                  have hww3 : w.heap.size < w3.heap.size := by omega
                  have hbt3 : bt < w3.heap.size := by omega
                  have hwa3 : wa.heap.size ≤ w3.heap.size := by omega
                  have HD10 := Lib.hid hw10
                  have HDS := Lib.hid ((hbw2.block _ (Nat.lt_succ_of_lt hww3)).trans HLS.out)
                  have HD5 := Lib.hid ((hbw2.block _ (Nat.lt_succ_of_lt hgw3)).trans HL5.out)
                  have HD7 := Lib.hid ((hbw2.block _ (Nat.lt_succ_self _)).trans HL7.out)
                  have D0 := Lib.hid ((hbw2.cell (p := ⟨bt, ot + k * 2, none⟩) (Nat.lt_succ_of_lt hbt3)).trans L0.out)
                  have D1 := Lib.hid ((hbw2.cell (p := ⟨bt, ot + k * 2 + 1, none⟩) (Nat.lt_succ_of_lt hbt3)).trans L1.out)
                  have HOD := Lib.hid (HOL.out.keep2 (w' := wd) fun p hp => hbw2.block _ (Nat.lt_succ_of_lt (HXB.out.1 p hp)))
                  have HID := Lib.hid (HIL2.out.keep2 (w' := wd) fun p hp => hbw2.block _ (Nat.lt_succ_of_lt (HXB.out.2 p hp)))
                  have HOW := Lib.hid how
                  have HIW := Lib.hid hiw
                  have HBD := Lib.hid (below_via (HBL.out.mono (show w3.heap.size + 1 ≤ wb.heap.size from Nat.le_of_lt h10b)) hbw2 (Nat.le_refl _))
                  have HBDA := Lib.hid (below_via HBS.out HBD.out (Nat.le_succ_of_le hwa3))
                  have HBDR := Lib.hid (below_via HBB.out HBD.out (by omega))
                  have hsd := hbw2.size
                  clear hw10 how hiw hbw2 HLS HL5 HL7 HL10 HOL HIL2 L0 L1
                  have HE1 := Lib.hid (fun W (hb : Below wd.heap.size wd W) => eqTLB_two xe xd Ax cx Bx dx Aw cw Bw dw W (TlAt.of_own (HOD.out.below hb (Nat.le_refl _)) (HID.out.below hb (Nat.le_refl _)) (by omega) (by omega)) (TlAt.of_own (HOW.out.below hb (Nat.le_refl _)) (HIW.out.below hb (Nat.le_refl _)) (by omega) (by omega)))
                  have HE2 := Lib.hid (fun W (hb : Below (w3.heap.size + 1) wd W) => eqTLB_two pe pg Ap cp Bp dp pa pc pd pf W (TlAt.of_own (HOA.out.below (below_via HBDA.out hb (Nat.le_succ_of_le hwa3)) (Nat.le_refl _)) (HIA.out.below (below_via HBDA.out hb (Nat.le_succ_of_le hwa3)) (Nat.le_refl _)) (by omega) (by omega)) ((HTA.out.below HBR.out).below (below_via HBDR.out hb (by omega))))
                  have HE3 := Lib.hid (fun W (hb : Below wd.heap.size wd W) => Eq_inv Ar ia cr ic il W (by rw [HIL.out]; omega) ((HRA.out.below (below_via HBDA.out hb (by omega)) (Nat.le_refl _)).at_ inv_len) ((HIT.out.below HBR.out).below (below_via HBDR.out hb (by omega))))
                  rw [HIL.out] at HE3
                  have ls0 := cell_of_row _ _ 0 _ _ _ HDS.out
                  have ls1 := cell_of_row _ _ 1 _ _ _ HDS.out
                  have lsf := fun j => frozen_of_row _ _ j _ _ HDS.out
                  have d0 := D0.out
                  have d1 := D1.out
                  have d5 := fun j => cell_of_row _ _ j _ _ _ HD5.out
                  have df5 := fun j => frozen_of_row _ _ j _ _ HD5.out
                  have d7 := fun j => cell_of_row _ _ j _ _ _ HD7.out
                  have df7 := fun j => frozen_of_row _ _ j _ _ HD7.out
                  have d10 := fun j => cell_of_row _ _ j _ _ _ HD10.out
                  have df10 := fun j => frozen_of_row _ _ j _ _ HD10.out
                  have hd10 := heap_lt HD10.out
                  have hgd : gp < wd.heap.size := by omega
                  have hwd : w.heap.size < wd.heap.size := by omega
                  have hbtd : bt < wd.heap.size := by omega
                  have h7d : w3.heap.size < wd.heap.size := by omega
                  have HE4 := Lib.hid (fun W (hb : Below wd.heap.size wd W) => HE2.out W (hb.mono (Nat.le_of_lt hd10)))
                 
                  go_upto_region 19 with fail
                 
                  refine wp_region_class (fun w' => Below (wd.heap.size) (wd) w') (by kernel_rfl) (by kernel_rfl) (Below.refl _ _).drew ?_
                  repeat (first
                    | (refine wpLex_pass (by rfl) passes_plain ?_; (conv => arg 9; simp only [put_lit, put_lit_none, List.set]))
                    | (refine wpLex_plain (by rfl) ?_
                       apply Exists.intro
                       refine ⟨?_, ?_⟩
                       · intro w' hb
                         have hsz := hb.size
                         try simp at hsz
                         have hcw := fun b o (h : b < wd.heap.size) => hb.cell (p := ⟨b, o, none⟩) h
                         have hfw := fun b o (h : b < wd.heap.size) => hb.frozen (p := ⟨b, o, none⟩) h
                         go_simp
                         first
                           | exact ⟨rfl, hb⟩
                           | exact rfl
                           | ((with_reducible refine Calls.mono (HNU.out _ _) ?_); rintro e w2 ⟨rfl, rfl⟩; exact ⟨_, rfl, rfl, hb⟩)
                           | ((with_reducible refine Calls.mono (HE1.out _ (by repeat' (first | (with_reducible exact Below.refl _ _) | (with_reducible (refine Below.setCell ?_ ?_ _)) | (with_reducible (refine Below.alloc ?_ ?_ _)) | (with_reducible (refine Below.drew ?_)) | (with_reducible (refine below_via ?_ hb ?_)) | omega | (simp; done) | (simp; omega)))) ?_); rintro e w2 ⟨rfl, hb2⟩; exact ⟨_, rfl, rfl, hb.trans (hb2.mono hsz)⟩)
                           | ((with_reducible refine Calls.mono (HE4.out _ (by repeat' (first | (with_reducible exact Below.refl _ _) | (with_reducible (refine Below.setCell ?_ ?_ _)) | (with_reducible (refine Below.alloc ?_ ?_ _)) | (with_reducible (refine Below.drew ?_)) | (with_reducible (refine below_via ?_ hb ?_)) | omega | (simp; done) | (simp; omega)))) ?_); rintro e w2 ⟨rfl, hb2⟩; exact ⟨_, rfl, rfl, hb.trans (hb2.mono hsz)⟩)
                           | ((with_reducible refine Calls.mono (HE3.out _ (by repeat' (first | (with_reducible exact Below.refl _ _) | (with_reducible (refine Below.setCell ?_ ?_ _)) | (with_reducible (refine Below.alloc ?_ ?_ _)) | (with_reducible (refine Below.drew ?_)) | (with_reducible (refine below_via ?_ hb ?_)) | omega | (simp; done) | (simp; omega)))) ?_); rintro e w2 ⟨rfl, hb2⟩; exact ⟨_, rfl, rfl, hb.trans (hb2.mono hsz)⟩)
                       conv => arg 9; simp only [put_lit, put_lit_none, List.set]))
                  refine wpLex_nil ?_
                  intro wq hbq
                  have hsq := hbq.size
                  try simp at hsq
                  have hcq := fun b o (h : b < wd.heap.size) => hbq.cell (p := ⟨b, o, none⟩) h
                  have hfq := fun b o (h : b < wd.heap.size) => hbq.frozen (p := ⟨b, o, none⟩) h
                  have HBq := Lib.hid hbq
                  clear hbq
                 
                  have HBQA := Lib.hid (below_via HBDA.out HBq.out (by omega))
                  have HEI := Lib.hid (fun W (hb : Below wa.heap.size wa W) => eqTLB_two pe pg Ap cp Bp dp pa pc pd pf W (TlAt.of_own (HOA.out.below hb (Nat.le_refl _)) (HIA.out.below hb (Nat.le_refl _)) (by omega) (by omega)) ((HTA.out.below HBR.out).below (below_via HBA.out hb HBA.out.size)))
                  have HSC := Lib.hid (fun W (hb : Below wd.heap.size wd W) => scrawl_keep (w3.heap.size + 1) Ax xe.length cx Bx xd.length dx wa.heap.size W (by omega) (by omega) (Nat.le_trans HBDA.out.size hb.size) (Room.of_own ((HOD.out.below hb (Nat.le_refl _)).mono (Nat.le_add_right _ 3))) (Room.of_own ((HID.out.below hb (Nat.le_refl _)).mono (Nat.le_add_right _ 3))) (Nat.lt_of_lt_of_le hd10 hb.size) (fun p hp => by have := HXB.out.1 p hp; omega) (fun p hp => by have := HXB.out.2 p hp; omega))
                  have c7 := (hcq _ 0 h7d).trans (d7 0)
                  have c7' := (hcq _ 1 h7d).trans (d7 1)
                  have cf7 := fun j => (hfq _ j h7d).trans (df7 j)
                  have HQS := Lib.hid ((HBq.out.block _ hwd).trans HDS.out)
                  have HQ5 := Lib.hid ((HBq.out.block _ hgd).trans HD5.out)
                  have HQ10 := Lib.hid ((HBq.out.block _ hd10).trans HD10.out)
                  have Q0 := Lib.hid ((HBq.out.cell (p := ⟨bt, ot + k * 2, none⟩) hbtd).trans D0.out)
                  have Q1 := Lib.hid ((HBq.out.cell (p := ⟨bt, ot + k * 2 + 1, none⟩) hbtd).trans D1.out)
                  clear hcq hfq ls0 ls1 lsf d0 d1 d5 df5 d7 df7 d10 df10
                  go_wp2_with fail
                 
                  refine Calls.mono (HSC.out _ HBq.out) ?_
                  rintro e w9 ⟨rfl, hb9, hk9⟩
                  have hwa1 : w.heap.size < wa.heap.size := by omega
                  have hwa2 : gp < wa.heap.size := by omega
                  have hwa4 : bt < wa.heap.size := by omega
                  have HNS := Lib.hid ((hb9.block _ hwa1).trans HQS.out)
                  have HN5 := Lib.hid ((hb9.block _ hwa2).trans HQ5.out)
                  have HN10 := Lib.hid (hk9.trans HQ10.out)
                  have N0 := Lib.hid ((hb9.cell (p := ⟨bt, ot + k * 2, none⟩) hwa4).trans Q0.out)
                  have N1 := Lib.hid ((hb9.cell (p := ⟨bt, ot + k * 2 + 1, none⟩) hwa4).trans Q1.out)
                  have HBNA := Lib.hid (HBQA.out.trans hb9)
                  clear hb9 hk9 c7 c7' cf7 HQS HQ5 HQ10 Q0 Q1
                  have ns0 := cell_of_row _ _ 0 _ _ _ HNS.out
                  have ns1 := cell_of_row _ _ 1 _ _ _ HNS.out
                  have nsf := fun j => frozen_of_row _ _ j _ _ HNS.out
                  have n0 := N0.out
                  have n1 := N1.out
                  have n5 := fun j => cell_of_row _ _ j _ _ _ HN5.out
                  have nf5 := fun j => frozen_of_row _ _ j _ _ HN5.out
                  have hn5 := heap_lt HN5.out
                  have hn10 := heap_lt HN10.out
                  have hnw := heap_lt HNS.out
                  have hnb : bt < w9.heap.size := by omega
                  have HE6 := Lib.hid (fun W (hb : Below w9.heap.size w9 W) => HEI.out W (HBNA.out.trans (hb.mono HBNA.out.size)))
                  go_upto_region 22 with fail
                 
                  refine wp_region_class (fun w' => Below (w9.heap.size) (w9) w') (by kernel_rfl) (by kernel_rfl) (Below.refl _ _).drew ?_
                  repeat (first
                    | (refine wpLex_pass (by rfl) passes_plain ?_; (conv => arg 9; simp only [put_lit, put_lit_none, List.set]))
                    | (refine wpLex_plain (by rfl) ?_
                       apply Exists.intro
                       refine ⟨?_, ?_⟩
                       · intro w' hb
                         have hsz := hb.size
                         try simp at hsz
                         have hcw := fun b o (h : b < w9.heap.size) => hb.cell (p := ⟨b, o, none⟩) h
                         have hfw := fun b o (h : b < w9.heap.size) => hb.frozen (p := ⟨b, o, none⟩) h
                         go_simp
                         first
                           | exact ⟨rfl, hb⟩
                           | exact rfl
                           | ((with_reducible refine Calls.mono (HE6.out _ (by repeat' (first | (with_reducible exact Below.refl _ _) | (with_reducible (refine Below.setCell ?_ ?_ _)) | (with_reducible (refine Below.alloc ?_ ?_ _)) | (with_reducible (refine Below.drew ?_)) | (with_reducible (refine below_via ?_ hb ?_)) | omega | (simp; done) | (simp; omega)))) ?_); rintro e w2 ⟨rfl, hb2⟩; exact ⟨_, rfl, rfl, hb.trans (hb2.mono hsz)⟩)
                       conv => arg 9; simp only [put_lit, put_lit_none, List.set]))
                  refine wpLex_nil ?_
                  intro wv hbv
                  have hsv := hbv.size
                  try simp at hsv
                  have hcv := fun b o (h : b < w9.heap.size) => hbv.cell (p := ⟨b, o, none⟩) h
                  have hfv := fun b o (h : b < w9.heap.size) => hbv.frozen (p := ⟨b, o, none⟩) h
                  have HBv := Lib.hid hbv
                  clear hbv
                  have HBVA := Lib.hid (HBNA.out.trans (HBv.out.mono HBNA.out.size))
                  have HBVO := Lib.hid (below_via HBA.out HBVA.out HBA.out.size)
                  by_cases hn0 : n = 0
                  · subst hn0
                   
                    clear hcv hfv
                    go_wp2_with fail
                    go_roundg (12 - (0 + 1))
                    case rel => exact ⟨0 + 1, by omega, by omega, rfl, by go_num, below_via HBV.out HBVO.out HBV.out.size⟩
                    case measure => have := HGM.out; omega
                  ·
                    obtain ⟨j, rfl⟩ : ∃ j, n = j + 1 := ⟨n - 1, by omega⟩
                    have HBVW := Lib.hid (below_via HBR.out HBVO.out (by have := HBR.out.size; omega))
                    have hji : j < is_.length := by omega
                    obtain ⟨bi, oi, rfl, hbi, hci⟩ := at_cells HI.out HBVW.out hji
                    obtain ⟨iv, hiv⟩ : ∃ x, is_[j] = x := ⟨_, rfl⟩
                    rw [hiv] at hci
                    have HIV := Lib.hid hiv
                    clear hiv
                    obtain ⟨b0, b1, b2, b3⟩ := iv
                    dsimp only [Inv.cells] at hci
                    have i0 := hci 0 _ rfl
                    have i1 := hci 1 _ rfl
                    have i2 := hci 2 _ rfl
                    have i3 := hci 3 _ rfl
                    simp only [Nat.add_zero] at i0
                    clear hci
                    have HLT := Lib.hid (fun W (hb : Below wv.heap.size wv W) => later_all ⟨Ap, cp, pe, Bp, dp, pg⟩ ⟨b0, b1, b2, b3⟩ W (TlAt.of_own (HOA.out.below (HBVA.out.trans (hb.mono HBVA.out.size)) (Nat.le_refl _)) (HIA.out.below (HBVA.out.trans (hb.mono HBVA.out.size)) (Nat.le_refl _)) (by omega) (by omega)))
                    dsimp only [Tl.cells, Inv.cells] at HLT
                    obtain ⟨le, hle⟩ : ∃ x, x = latE pe pg ⟨b0, b1, b2, b3⟩ := ⟨_, rfl⟩
                    obtain ⟨ld, hld⟩ : ∃ x, x = latD pe pg ⟨b0, b1, b2, b3⟩ := ⟨_, rfl⟩
                    obtain ⟨lx, hlx⟩ : ∃ x, x = latX pe pg ⟨b0, b1, b2, b3⟩ := ⟨_, rfl⟩
                    rw [← hle, ← hld, ← hlx] at HLT
                    have HLE := Lib.hid hle
                    have HLD := Lib.hid hld
                    have HLX := Lib.hid hlx
                    clear hle hld hlx
                    have HVS := Lib.hid ((HBv.out.block _ hnw).trans HNS.out)
                    have HV5 := Lib.hid ((HBv.out.block _ hn5).trans HN5.out)
                    have HV10 := Lib.hid ((HBv.out.block _ hn10).trans HN10.out)
                    have V0 := Lib.hid ((HBv.out.cell (p := ⟨bt, ot + k * 2, none⟩) hnb).trans N0.out)
                    have V1 := Lib.hid ((HBv.out.cell (p := ⟨bt, ot + k * 2 + 1, none⟩) hnb).trans N1.out)
                    clear hcv hfv ns0 ns1 nsf n0 n1 n5 nf5
                    have vs1 := cell_of_row _ _ 1 _ _ _ HVS.out
                    have vsf := fun j => frozen_of_row _ _ j _ _ HVS.out
                    have v5 := fun j => cell_of_row _ _ j _ _ _ HV5.out
                    have vf5 := fun j => frozen_of_row _ _ j _ _ HV5.out
                    have hv5 := heap_lt HV5.out
                    have hvw := heap_lt HVS.out
                    have hbiv : bi < wv.heap.size := by have := HBVW.out.size; omega
                    have hjl : (j : Int) < is_.length := by omega
                    have hj0 : ¬ ((j : Int) + 1 = 0) := by omega
                    have hwj : IntKind.i64.wrap (j : Int) = j := IntWalk.i64_in _ (by omega)
                    go_upto_region 25 with fail
                    have HSTL : Stays (tlPs wv.heap.size wv.heap.size le ld lx 7 8 9 11 12 137 129 138 13 []) := stays_tl stays_nil
                   
                    refine wp_region_lex [137, 129, 138, 13] (PromC (wv) (tlPs wv.heap.size wv.heap.size le ld lx 7 8 9 11 12 137 129 138 13 [])) (promC_looks (by rfl)) (by kernel_rfl) (by kernel_rfl) (by kernel_rfl) (promC_start _) ?_
                    repeat (first
                      | (refine wpLex_promMake 0 _ [] HSTL rfl (by rfl) (by rfl) (by rfl) (by rfl) (by rfl) (by rfl) (by rfl) ?_ ?_
                         · intro u w' hb hk
                           have hsz := hb.size
                           try simp at hsz
                           have hcw := fun b o (h : b < (wv).heap.size) => hb.cell (p := ⟨b, o, none⟩) h
                           have hfw := fun b o (h : b < (wv).heap.size) => hb.frozen (p := ⟨b, o, none⟩) h
                           try simp only [putS, List.foldl, put_lit, List.set]
                           go_simp
                           (with_reducible refine Calls.mono (HLT.out _ (by repeat' (first | (with_reducible exact Below.refl _ _) | (with_reducible (refine Below.setCell ?_ ?_ _)) | (with_reducible (refine Below.alloc ?_ ?_ _)) | (with_reducible (refine Below.drew ?_)) | (with_reducible (refine below_via ?_ hb ?_)) | omega | (simp; done) | (simp; omega)))) ?_)
                           rintro e w2 ⟨A, c, A', c', rfl, h1, h2, hb2⟩
                           exact ⟨_, rfl, ⟨_, rfl⟩, ⟨A, c, A', c', rfl, h1.mono (Nat.le_trans hb.size (Nat.le_add_right _ 3)), h2.mono (Nat.le_trans hb.size (Nat.le_add_right _ 3))⟩, hb2⟩
                         (conv => arg 9; simp only [put_lit, put_lit_none, List.set]))
                      | (refine wpLex_promMake 1 _ [0] HSTL rfl (by rfl) (by rfl) (by rfl) (by rfl) (by rfl) (by rfl) (by rfl) ?_ ?_
                         · intro u w' hb hk
                           have hsz := hb.size
                           try simp at hsz
                           have hcw := fun b o (h : b < (wv).heap.size) => hb.cell (p := ⟨b, o, none⟩) h
                           have hfw := fun b o (h : b < (wv).heap.size) => hb.frozen (p := ⟨b, o, none⟩) h
                           try simp only [putS, List.foldl, put_lit, List.set]
                           obtain ⟨A, c, A', c', e0, h1, h2⟩ := (hk 0 (by simp) _ rfl).2
                           have e0' : u 137 = _ := e0
                           rw [e0']
                           go_simp
                           exact ⟨⟨_, rfl⟩, ⟨A, c, A', c', rfl, h1, h2⟩, Below.refl _ _⟩
                         (conv => arg 9; simp only [put_lit, put_lit_none, List.set]))
                      | (refine wpLex_promMake 2 _ [1] HSTL rfl (by rfl) (by rfl) (by rfl) (by rfl) (by rfl) (by rfl) (by rfl) ?_ ?_
                         · intro u w' hb hk
                           have hsz := hb.size
                           try simp at hsz
                           have hcw := fun b o (h : b < (wv).heap.size) => hb.cell (p := ⟨b, o, none⟩) h
                           have hfw := fun b o (h : b < (wv).heap.size) => hb.frozen (p := ⟨b, o, none⟩) h
                           try simp only [putS, List.foldl, put_lit, List.set]
                           obtain ⟨A, c, A', c', e1, h1, h2⟩ := (hk 1 (by simp) _ rfl).2
                           have e1' : u 129 = _ := e1
                           rw [e1']
                           go_simp
                           exact ⟨trivial, ⟨A, c, A', c', rfl, h1, h2⟩, Below.refl _ _⟩
                         (conv => arg 9; simp only [put_lit, put_lit_none, List.set]))
                      | (refine wpLex_promUseV [1] HSTL (by rfl) (by rfl) (by rfl) ?_
                         apply Exists.intro
                         refine ⟨?_, ?_⟩
                         · intro u w' hb hk
                           have hsz := hb.size
                           try simp at hsz
                           have hcw := fun b o (h : b < (wv).heap.size) => hb.cell (p := ⟨b, o, none⟩) h
                           have hfw := fun b o (h : b < (wv).heap.size) => hb.frozen (p := ⟨b, o, none⟩) h
                           try simp only [putS, List.foldl, put_lit, List.set]
                           obtain ⟨x, e1⟩ := hk 1 (by simp) _ rfl
                           have e1' : u 129 = _ := e1
                           rw [e1']
                           go_simp
                           exact ⟨rfl, Below.refl _ _⟩
                         (conv => arg 9; simp only [put_lit, put_lit_none, List.set]))
                      | (refine wpLex_promMake 3 _ [] HSTL rfl (by rfl) (by rfl) (by rfl) (by rfl) (by rfl) (by rfl) (by rfl) ?_ ?_
                         · intro u w' hb hk
                           have hsz := hb.size
                           try simp at hsz
                           have hcw := fun b o (h : b < (wv).heap.size) => hb.cell (p := ⟨b, o, none⟩) h
                           have hfw := fun b o (h : b < (wv).heap.size) => hb.frozen (p := ⟨b, o, none⟩) h
                           try simp only [putS, List.foldl, put_lit, List.set]
                           go_simp
                           exact ⟨trivial, ⟨_, rfl, hsz, heap_new _ _⟩, (Below.refl _ _).alloc (Nat.le_refl _) _⟩
                         (conv => arg 9; simp only [put_lit, put_lit_none, List.set]))
                      | (refine wpLex_promStore 4 _ [2, 3] rfl (by rfl) (by rfl) (by rfl) (by rfl) (by rfl) (by rfl) ?_ ?_
                         · intro u w' hb hk
                           have hsz := hb.size
                           try simp at hsz
                           have hcw := fun b o (h : b < (wv).heap.size) => hb.cell (p := ⟨b, o, none⟩) h
                           have hfw := fun b o (h : b < (wv).heap.size) => hb.frozen (p := ⟨b, o, none⟩) h
                           try simp only [putS, List.foldl, put_lit, List.set]
                           obtain ⟨g, A, c, A', c', e2, e3, hz, hP, hB⟩ := put_step hb (hk 2 (by simp) _ rfl).2 (hk 3 (by simp) _ rfl).2
                           have e2' : u 138 = _ := e2
                           have e3' : u 13 = _ := e3
                           have hP2 : PutF _ _ _ _ (u 13) _ := hP
                           rw [e3'] at hP2
                           rw [e2', e3']
                           have hzc := fun j => cell_of_row _ _ j _ _ _ hz
                           have hzf := fun j => frozen_of_row _ _ j _ _ hz
                           go_simp
                           first | exact trivial | exact ⟨trivial, hP2, hB⟩ | exact ⟨rfl, trivial, hP2, hB⟩)
                      | (refine wpLex_pass (by rfl) (passes_prom HSTL (by rfl)) ?_; (conv => arg 9; simp only [put_lit, put_lit_none, List.set]))
                      | (refine wpLex_promUse [] HSTL (by rfl) (by rfl) (by rfl) ?_
                         apply Exists.intro
                         refine ⟨?_, ?_⟩
                         · intro u w' hb _
                           have hsz := hb.size
                           try simp at hsz
                           have hcw := fun b o (h : b < (wv).heap.size) => hb.cell (p := ⟨b, o, none⟩) h
                           have hfw := fun b o (h : b < (wv).heap.size) => hb.frozen (p := ⟨b, o, none⟩) h
                           try simp only [putS, List.foldl, put_lit, List.set]
                           go_simp
                           first
                             | exact ⟨rfl, Below.refl _ _⟩
                             | exact Below.refl _ _
                             | exact rfl
                         (conv => arg 9; simp only [put_lit, put_lit_none, List.set])))
                    refine wpLex_nil ?_
                    intro wh bh dh hdh hCh hoh
                    obtain ⟨uh, rfl, hbh, hkh⟩ := promC_end hCh hdh hoh
                    clear hCh hoh hdh dh
                    simp only [putS, List.foldl, put_lit, List.set]
                    have hsh := hbh.size
                    try simp at hsh
                    have hch := fun b o (h : b < (wv).heap.size) => hbh.cell (p := ⟨b, o, none⟩) h
                    have hfh := fun b o (h : b < (wv).heap.size) => hbh.frozen (p := ⟨b, o, none⟩) h
                    have HBh := Lib.hid hbh
                    clear hbh
                    obtain ⟨gh, Ah, ch, Bh, dh, eh, hgh, hxh, hoh, hih⟩ := (hkh 4 _ rfl (of_decide_eq_true (by rfl)) rfl).2
                    have eh' : uh 13 = _ := eh
                    rw [eh']
                    clear hkh
                    generalize uh 137 = xh137 at *
                    generalize uh 129 = xh129 at *
                    generalize uh 138 = xh138 at *
                    clear eh eh' uh
                    have hlh := heap_lt hxh
                    have HXh := Lib.hid hxh
                    have HOh := Lib.hid hoh
                    have HIh := Lib.hid hih
                    clear hxh hoh hih
                   
                    have hwv10 := heap_lt HV10.out
                    have I0 := Lib.hid i0
                    have I1 := Lib.hid i1
                    have I2 := Lib.hid i2
                    have I3 := Lib.hid i3
                    have HH10 := Lib.hid ((HBh.out.block _ hwv10).trans HV10.out)
                    clear hch hfh vs1 vsf v5 vf5 i0 i1 i2 i3 HLT
                    have q10 := fun j => cell_of_row _ _ j _ _ _ HH10.out
                    have qf10 := fun j => frozen_of_row _ _ j _ _ HH10.out
                   
                    go_upto_region 27 with fail
                    refine name_world ?_
                    intro wn hwn
                    have h10h : w3.heap.size + 1 < gh := by omega
                    have HN10 := Lib.hid (show wn.heap[w3.heap.size + 1]? = some (.cells #[.slice none 0 0, .slice none 0 0] tlbT (0, 0)) by rw [hwn]; exact heap_set_same (heap_set_same HH10.out 0 _) 1 _)
                    have HNX := Lib.hid (show wn.heap[gh]? = some (.cells #[.slice Ah le.length ch, .slice Bh ld.length dh] tlbT (0, 0)) by rw [hwn]; exact (by repeat (first | (with_reducible assumption) | (with_reducible exact HXh.out) | (exact heap_at _ _ (by simp; done)) | (with_reducible refine heap_old_is _ _ (by (first | omega | (simp; done) | (simp; omega))) ?_) | (with_reducible refine heap_far_is (by (first | omega | (simp; done) | (simp; omega))) ?_))))
                    have HNO := Lib.hid (show Own wn wv.heap.size entT 14 Ent.cells le Ah ch by rw [hwn]; exact (by repeat (first | (with_reducible exact Own.mono HOh.out (by (first | omega | (simp; done) | (simp; omega)))) | (with_reducible refine Own.set_far ?_ (by (first | omega | (simp; done) | (simp; omega))) _) | (with_reducible refine Own.alloc ?_ _) | (with_reducible refine Own.drew ?_))))
                    have HNI := Lib.hid (show Own wn wv.heap.size invT 4 Inv.cells ld Bh dh by rw [hwn]; exact (by repeat (first | (with_reducible exact Own.mono HIh.out (by (first | omega | (simp; done) | (simp; omega)))) | (with_reducible refine Own.set_far ?_ (by (first | omega | (simp; done) | (simp; omega))) _) | (with_reducible refine Own.alloc ?_ _) | (with_reducible refine Own.drew ?_))))
                    have HBN := Lib.hid (show Below (w3.heap.size + 1) wv wn by rw [hwn]; exact Below.setCell (Below.setCell (HBh.out.mono (Nat.le_of_lt hwv10)) (Nat.le_refl _) _) (Nat.le_refl _) _)
                    have hsn : wn.heap.size = wh.heap.size := by rw [hwn]; simp
                    clear hwn q10 qf10
                    have hl3 : w.heap.size < w3.heap.size ∧ bt < w3.heap.size ∧ bi < w3.heap.size ∧ wr.heap.size ≤ w3.heap.size := by omega
                    obtain ⟨hl3w, hl3t, hl3i, hl3r⟩ := hl3
                    have K0 := Lib.hid ((HBN.out.cell (p := ⟨bt, ot + k * 2, none⟩) (Nat.lt_succ_of_lt hl3t)).trans V0.out)
                    have K1 := Lib.hid ((HBN.out.cell (p := ⟨bt, ot + k * 2 + 1, none⟩) (Nat.lt_succ_of_lt hl3t)).trans V1.out)
                    have J0 := Lib.hid ((HBN.out.cell (p := ⟨bi, oi + j * 4, none⟩) (Nat.lt_succ_of_lt hl3i)).trans I0.out)
                    have J1 := Lib.hid ((HBN.out.cell (p := ⟨bi, oi + j * 4 + 1, none⟩) (Nat.lt_succ_of_lt hl3i)).trans I1.out)
                    have J2 := Lib.hid ((HBN.out.cell (p := ⟨bi, oi + j * 4 + 2, none⟩) (Nat.lt_succ_of_lt hl3i)).trans I2.out)
                    have J3 := Lib.hid ((HBN.out.cell (p := ⟨bi, oi + j * 4 + 3, none⟩) (Nat.lt_succ_of_lt hl3i)).trans I3.out)
                    have HNS := Lib.hid ((HBN.out.block _ (Nat.lt_succ_of_lt hl3w)).trans HVS.out)
                    have HBNR := Lib.hid (below_via HBVO.out HBN.out (Nat.le_succ_of_le hl3r))
                    clear I0 I1 I2 I3 HH10
                    obtain ⟨g1, hg1⟩ : ∃ b, tlbOk pe pg = b := ⟨_, rfl⟩
                    obtain ⟨g2, hg2⟩ : ∃ b, dueOk ⟨b0, b1, b2, b3⟩ = b := ⟨_, rfl⟩
                    have HRT2 := Lib.hid (fun W (hb : Below (w3.heap.size + 1) wn W) => rTLB_any ⟨pa, pc, pe, pd, pf, pg⟩ W ((HTA.out.below HBR.out).below (below_via HBNR.out hb (Nat.le_succ_of_le hl3r))))
                    have HRI2 := Lib.hid (fun W => rInval_any ⟨b0, b1, b2, b3⟩ W)
                    dsimp only [Tl.cells, Inv.cells] at HRT2 HRI2
                    rw [hg1] at HRT2
                    rw [hg2] at HRI2
                    have HG12 := Lib.hid (show (tlbOk pe pg && dueOk ⟨b0, b1, b2, b3⟩) = (g1 && g2) by rw [hg1, hg2])
                    clear hg1 hg2
                    have hn10 := heap_lt HN10.out
                    have ns0 := cell_of_row _ _ 0 _ _ _ HNS.out
                    have ns1 := cell_of_row _ _ 1 _ _ _ HNS.out
                    have nsf := fun j => frozen_of_row _ _ j _ _ HNS.out
                    have hns := heap_lt HNS.out
                    have k0 := K0.out
                    have k1 := K1.out
                    have j0 := J0.out
                    have j1 := J1.out
                    have j2 := J2.out
                    have j3 := J3.out
                    have hbtn : bt < wn.heap.size := by omega
                    have hbin : bi < wn.heap.size := by omega
                   
                    go_cut [155] from 155 to 155 (fun v W => v = .bool (g1 && g2) ∧ Below wn.heap.size wn W)
                    case first =>
                      cases g1
                      · go_wp2_with fail
                        refine Calls.mono (HRT2.out _ (by repeat' (first | (with_reducible exact Below.refl _ _) | (with_reducible (refine Below.setCell ?_ ?_ _)) | (with_reducible (refine Below.alloc ?_ ?_ _)) | (with_reducible (refine Below.drew ?_)) | omega | (simp; done) | (simp; omega)))) ?_
                        rintro e w6 ⟨rfl, hb6⟩
                        have hs6 := hb6.size
                        try simp at hs6
                        have hc6_0 := fun o => (bcell hb6).1 (w.heap.size) o (by first | omega | (simp; done) | (simp; omega))
                        have hf6_0 := fun o => (bcell hb6).2.1 (w.heap.size) o (by first | omega | (simp; done) | (simp; omega))
                        have hz6_0 := (bcell hb6).2.2 (w.heap.size) (by first | omega | (simp; done) | (simp; omega))
                        have HB6 := Lib.hid hb6
                        clear hb6
                        go_wp2_with fail
                        go_meet
                        case rel => exact ⟨rfl, HB6.out⟩
                      · go_wp2_with fail
                        refine Calls.mono (HRT2.out _ (by repeat' (first | (with_reducible exact Below.refl _ _) | (with_reducible (refine Below.setCell ?_ ?_ _)) | (with_reducible (refine Below.alloc ?_ ?_ _)) | (with_reducible (refine Below.drew ?_)) | omega | (simp; done) | (simp; omega)))) ?_
                        rintro e w6 ⟨rfl, hb6⟩
                        have hs6 := hb6.size
                        try simp at hs6
                        have hc6_0 := fun o => (bcell hb6).1 (w.heap.size) o (by first | omega | (simp; done) | (simp; omega))
                        have hf6_0 := fun o => (bcell hb6).2.1 (w.heap.size) o (by first | omega | (simp; done) | (simp; omega))
                        have hz6_0 := (bcell hb6).2.2 (w.heap.size) (by first | omega | (simp; done) | (simp; omega))
                        have hc6_1 := fun o => (bcell hb6).1 (bi) o (by first | omega | (simp; done) | (simp; omega))
                        have hf6_1 := fun o => (bcell hb6).2.1 (bi) o (by first | omega | (simp; done) | (simp; omega))
                        have hz6_1 := (bcell hb6).2.2 (bi) (by first | omega | (simp; done) | (simp; omega))
                        have HB6 := Lib.hid hb6
                        clear hb6
                        go_wp2_with fail
                        refine Calls.mono (HRI2.out _) ?_
                        rintro e w7 ⟨rfl, hb7⟩
                        have hs7 := hb7.size
                        try simp at hs7
                        have HB7 := Lib.hid hb7
                        clear hb7
                        go_wp2_with fail
                        go_meet
                        case rel => exact ⟨by rw [Bool.true_and], (by repeat' (first | (with_reducible exact Below.refl _ _) | (with_reducible (refine Below.setCell ?_ ?_ _)) | (with_reducible (refine Below.alloc ?_ ?_ _)) | (with_reducible (refine Below.drew ?_)) | (with_reducible (refine below_via ?_ HB7.out ?_)) | (with_reducible (refine below_via ?_ HB6.out ?_)) | omega | (simp; done) | (simp; omega)))⟩
                    case rest =>
                     
                      obtain ⟨rfl, hbc⟩ := hcut
                      obtain ⟨wp, rfl⟩ : ∃ wp : World, wp = wc := ⟨_, rfl⟩
                      have HBC := Lib.hid hbc
                      have hsc := hbc.size
                      clear hbc ns0 ns1 nsf k0 k1 j0 j1 j2 j3
                      have P0 := Lib.hid ((HBC.out.cell (p := ⟨bt, ot + k * 2, none⟩) hbtn).trans K0.out)
                      have P1 := Lib.hid ((HBC.out.cell (p := ⟨bt, ot + k * 2 + 1, none⟩) hbtn).trans K1.out)
                      have R0 := Lib.hid ((HBC.out.cell (p := ⟨bi, oi + j * 4, none⟩) hbin).trans J0.out)
                      have R1 := Lib.hid ((HBC.out.cell (p := ⟨bi, oi + j * 4 + 1, none⟩) hbin).trans J1.out)
                      have R2 := Lib.hid ((HBC.out.cell (p := ⟨bi, oi + j * 4 + 2, none⟩) hbin).trans J2.out)
                      have R3 := Lib.hid ((HBC.out.cell (p := ⟨bi, oi + j * 4 + 3, none⟩) hbin).trans J3.out)
                      have HPS := Lib.hid ((HBC.out.block _ hns).trans HNS.out)
                      have HP10 := Lib.hid ((HBC.out.block _ hn10).trans HN10.out)
                      have HPX := Lib.hid ((HBC.out.block _ (heap_lt HNX.out)).trans HNX.out)
                      have HPO := Lib.hid (HNO.out.below HBC.out (Nat.le_refl _))
                      have HPI := Lib.hid (HNI.out.below HBC.out (Nat.le_refl _))
                      have HBP := Lib.hid (below_via HBNR.out (HBC.out.mono (Nat.le_of_lt hn10)) (Nat.le_succ_of_le hl3r))
                      have HCP2 := Lib.hid (fun W (hb : Below wp.heap.size wp W) => CopyTLB_any ⟨pa, pc, pe, pd, pf, pg⟩ W ((HTA.out.below HBR.out).below (below_via HBP.out hb HBP.out.size)) (by dsimp only; omega) (by dsimp only; omega))
                      dsimp only [Tl.cells] at HCP2
                      clear K0 K1 J0 J1 J2 J3 HNS HN10 HNX HNO HNI HRT2 HRI2
                      have hp10 := heap_lt HP10.out
                      have hps := heap_lt HPS.out
                      have hbtp : bt < wp.heap.size := by omega
                      have hbip : bi < wp.heap.size := by omega
                      obtain ⟨g3, hg3⟩ : ∃ b, (g1 && g2) = b := ⟨_, rfl⟩
                      rw [hg3] at HG12
                      rw [hg3]
                      clear hg3
                     
                      go_upto_if 155 with fail
                      go_cut [9] from 156 to 156 (fun v W => ∃ A c B d, v = .int .i64 lx ∧ W.heap[w3.heap.size + 1]? = some (.cells #[.slice A le.length c, .slice B ld.length d] tlbT (0, 0)) ∧ Own W wp.heap.size entT 14 Ent.cells le A c ∧ Own W wp.heap.size invT 4 Inv.cells ld B d ∧ Below (w3.heap.size + 1) wp W ∧ ∀ b, b < wp.heap.size → b ≠ w3.heap.size + 1 → W.heap[b]? = wp.heap[b]?)
                      case first =>
                        cases g3
                        · obtain ⟨y1, y2, y3⟩ := lat_no HG12.out
                          obtain rfl : lx = 1 := HLX.out.trans y1
                          obtain rfl : le = [] := HLE.out.trans y2
                          obtain rfl : ld = [] := HLD.out.trans y3
                          clear y1 y2 y3
                          go_wp2_with fail
                          go_meet
                          case rel => exact ⟨none, 0, none, 0, rfl, HP10.out, World.ownsRow_nil _ _ _ _, World.ownsRow_nil _ _ _ _, Below.refl _ _, fun _ _ _ => rfl⟩
                        · have s0 := cell_of_row _ _ 0 _ _ _ HPS.out
                          have s1 := cell_of_row _ _ 1 _ _ _ HPS.out
                          have sf := fun j => frozen_of_row _ _ j _ _ HPS.out
                          have p0 := P0.out
                          have p1 := P1.out
                          by_cases h8 : pg.length < 8
                          ·
                            obtain ⟨y1, y2, y3⟩ := lat_yes HG12.out h8
                            obtain rfl : lx = 0 := HLX.out.trans y1
                            obtain rfl : le = pe := HLE.out.trans y2
                            have hly := HLD.out.trans y3
                            have HLY := Lib.hid hly
                            clear y1 y2 y3 hly
                            have q8 : decide ((pg.length : Int) < 8) = true := by simp; omega
                            go_wp2_with fail
                            refine Calls.mono (HCP2.out _ (by repeat' (first | (with_reducible exact Below.refl _ _) | (with_reducible (refine Below.setCell ?_ ?_ _)) | (with_reducible (refine Below.alloc ?_ ?_ _)) | (with_reducible (refine Below.drew ?_)) | omega | (simp; done) | (simp; omega)))) ?_
                            rintro e w8 ⟨Aq, cq, Bq, dq, rfl, hoq, hiq, hb8⟩
                            have hs8 := hb8.size
                            try simp at hs8
                            have HB8 := Lib.hid hb8
                            clear hb8
                            have Hhoq := Lib.hid hoq
                            clear hoq
                            have Hhiq := Lib.hid hiq
                            clear hiq
                            have HP8 := Lib.hid ((HB8.out.block _ hp10).trans HP10.out)
                            have e10 := fun j => cell_of_row _ _ j _ _ _ HP8.out
                            have ef10 := fun j => frozen_of_row _ _ j _ _ HP8.out
                            go_upto_region 31 with fail
                            refine name_world ?_
                            intro wq hwq
                            have HQ10 := Lib.hid (show wq.heap[w3.heap.size + 1]? = some (.cells #[.slice Aq le.length cq, .slice Bq pg.length dq] tlbT (0, 0)) by rw [hwq]; exact heap_set_same (heap_set_same HP8.out 0 _) 1 _)
                            have HQO := Lib.hid (show Own wq (wp.heap.size + 3) entT 14 Ent.cells le Aq cq by rw [hwq]; exact (by repeat (first | (with_reducible exact Own.mono Hhoq.out (by (first | omega | (simp; done) | (simp; omega)))) | (with_reducible refine Own.set_far ?_ (by (first | omega | (simp; done) | (simp; omega))) _) | (with_reducible refine Own.alloc ?_ _) | (with_reducible refine Own.drew ?_))))
                            have HQI := Lib.hid (show Own wq (wp.heap.size + 3) invT 4 Inv.cells pg Bq dq by rw [hwq]; exact (by repeat (first | (with_reducible exact Own.mono Hhiq.out (by (first | omega | (simp; done) | (simp; omega)))) | (with_reducible refine Own.set_far ?_ (by (first | omega | (simp; done) | (simp; omega))) _) | (with_reducible refine Own.alloc ?_ _) | (with_reducible refine Own.drew ?_))))
                            have HBQ := Lib.hid (show Below (w3.heap.size + 1) wp wq by rw [hwq]; exact Below.setCell (Below.setCell (HB8.out.mono (Nat.le_of_lt hp10)) (Nat.le_refl _) _) (Nat.le_refl _) _)
                            have HKQ := Lib.hid (show ∀ b, b < wp.heap.size → b ≠ w3.heap.size + 1 → wq.heap[b]? = wp.heap[b]? from fun b hb hne => by rw [hwq]; exact (heap_set_other hne _).trans ((heap_set_other hne _).trans (HB8.out.block b hb)))
                            have hsq : wp.heap.size ≤ wq.heap.size := by rw [hwq]; simp; exact HB8.out.size
                            clear hwq e10 ef10 s0 s1 sf p0 p1
                            have HQS := Lib.hid ((HBQ.out.block _ (Nat.lt_succ_of_lt hl3w)).trans HPS.out)
                            have s1 := cell_of_row _ _ 1 _ _ _ HQS.out
                            have sf := fun j => frozen_of_row _ _ j _ _ HQS.out
                            have e10 := fun j => cell_of_row _ _ j _ _ _ HQ10.out
                            have ef10 := fun j => frozen_of_row _ _ j _ _ HQ10.out
                            have r0 := (HBQ.out.cell (p := ⟨bi, oi + j * 4, none⟩) (Nat.lt_succ_of_lt hl3i)).trans R0.out
                            have r1 := (HBQ.out.cell (p := ⟨bi, oi + j * 4 + 1, none⟩) (Nat.lt_succ_of_lt hl3i)).trans R1.out
                            have r2 := (HBQ.out.cell (p := ⟨bi, oi + j * 4 + 2, none⟩) (Nat.lt_succ_of_lt hl3i)).trans R2.out
                            have r3 := (HBQ.out.cell (p := ⟨bi, oi + j * 4 + 3, none⟩) (Nat.lt_succ_of_lt hl3i)).trans R3.out
                            have hq10 := heap_lt HQ10.out
                            have hqs := heap_lt HQS.out
                            have hqi : bi < wq.heap.size := by omega
                           
                            refine wp_region_lex_tail 9 [178] (NewC (wq) 178 8 (fun g => .slice (some ⟨g, 0, none⟩) 1 1) (invT) (#[.int .i64 b0, .int .i64 b1, .int .i64 b2, .int .i64 b3])) newC_looks (by kernel_rfl) (by kernel_rfl) (by kernel_rfl) (by kernel_rfl) (newC_start _) ?_
                            repeat (first
                              | (refine wpLex_pass (by rfl) (passes_new (by decide) (by rfl)) ?_; (conv => arg 9; simp only [put_lit, put_lit_none, List.set]))
                              | (refine wpLex_new (by rfl) (by rfl) (by decide) (by rfl) ?_
                                 apply Exists.intro
                                 refine ⟨?_, ?_⟩
                                 · intro w' hb
                                   have hsz := hb.size
                                   try simp at hsz
                                   have hcw := fun b o (h : b < (wq).heap.size) => hb.cell (p := ⟨b, o, none⟩) h
                                   have hfw := fun b o (h : b < (wq).heap.size) => hb.frozen (p := ⟨b, o, none⟩) h
                                   go_simp
                                   first
                                     | exact ⟨rfl, Below.refl _ _⟩
                                     | exact Below.refl _ _
                                 conv => arg 9; simp only [put_lit, put_lit_none, List.set])
                              | (refine wpLex_want undef (by rfl) (comes_new rfl (by simp) rfl (by decide) (fun w _ => by go_simp; rfl)) ?_; (conv => arg 9; simp only [put_lit, put_lit_none, List.set])))
                            refine wpLex_nil ?_
                            intro wt bt dt hdt hCt hot
                            obtain ⟨gt, rfl, hgt, hxt, hbt⟩ := newC_end hCt (hdt 8 (by decide)) hot
                            clear hCt hdt hot
                            simp only [put_lit, List.set]
                            have hst := hbt.size
                            try simp at hst hgt
                            have hlt := heap_lt hxt
                            have hct := fun b o (h : b < (wq).heap.size) => hbt.cell (p := ⟨b, o, none⟩) h
                            have hft := fun b o (h : b < (wq).heap.size) => hbt.frozen (p := ⟨b, o, none⟩) h
                            have HBt := Lib.hid hbt
                            have HXt := Lib.hid hxt
                            clear hbt hxt
                            simp only [List.drop]
                           
                            have HTO := Lib.hid (HQO.out.below HBt.out (Nat.le_refl _))
                            have HTI := Lib.hid (HQI.out.below HBt.out (Nat.le_refl _))
                            have HT10 := Lib.hid ((HBt.out.block _ hq10).trans HQ10.out)
                            have HA3 := Lib.hid (show (∀ p : Addr, Aq = some p → p.block < wq.heap.size ∧ wp.heap.size + 3 ≤ p.block) ∧ (∀ p : Addr, Bq = some p → p.block < wq.heap.size ∧ wp.heap.size + 3 ≤ p.block) from ⟨fun p hp => ⟨(HQO.out.block_ hp).2, (HQO.out.block_ hp).1⟩, fun p hp => ⟨(HQI.out.block_ hp).2, (HQI.out.block_ hp).1⟩⟩)
                            obtain ⟨j0, hi0, hz0, hz1, hz2⟩ := info_parts inv_info
                            refine wpList_one rfl (.tmp 171) (.tmp 178) _ rfl wp.heap.size invT j0 _ 4 32 Try.underlying23 hi0 hz0 hz1 hz2 rfl (by omega) inv_len inv_ones pg ld ⟨b0, b1, b2, b3⟩ HLY.out Bq dq rfl (HTI.out.mono (Nat.le_add_right _ 3)) gt rfl HXt.out (by simp only [maxLen]; omega) (by omega) (by omega) ?_
                            intro A5 c5 w5 ho5 hb5 hk5
                            have HO5 := Lib.hid ho5
                            have HK5 := Lib.hid hk5
                            have HB5 := Lib.hid hb5
                            clear ho5 hk5 hb5 hi0 hz0 hz1 hz2 hct hft
                            have HX5 := Lib.hid ((HB5.out.block _ (by omega)).trans HT10.out)
                            have HE5 := Lib.hid (HTO.out.keep2 (w' := w5) (fun p hp => HK5.out p.block (by have := (HTO.out.block_ hp).2; omega) (fun q hq => Own.blk_ne HTI.out HTO.out (by decide) q p hq hp)))
                            have HKF := Lib.hid (show ∀ b, b < wp.heap.size → b ≠ w3.heap.size + 1 → w5.heap[b]? = wp.heap[b]? from fun b hb hne => (HB5.out.block b (by omega)).trans ((HBt.out.block b (by omega)).trans (HKQ.out b hb hne)))
                            have x5 := fun j => cell_of_row _ _ j _ _ _ HX5.out
                            have xf5 := fun j => frozen_of_row _ _ j _ _ HX5.out
                            have HBF := Lib.hid (show Below (w3.heap.size + 1) wp w5 from below_via (below_via HBQ.out HBt.out (by omega)) HB5.out (by omega))
                           
                            go_wp2_with fail
                            go_meet
                            case rel => exact ⟨Aq, cq, A5, c5, rfl, heap_set_same HX5.out 1 _, ((HE5.out.set_far (by simp; omega) _).mono (by omega)), ((HO5.out.set_far (by simp; omega) _).mono (by omega)), Below.setCell HBF.out (Nat.le_refl _) _, fun b hb hne => (heap_set_other hne _).trans (HKF.out b hb hne)⟩
                          ·
                            obtain ⟨y1, y2, y3⟩ := lat_full HG12.out h8
                            obtain rfl : lx = 5 := HLX.out.trans y1
                            obtain rfl : le = [] := HLE.out.trans y2
                            obtain rfl : ld = [] := HLD.out.trans y3
                            clear y1 y2 y3
                            have q8 : decide ((pg.length : Int) < 8) = false := by simp; omega
                            go_wp2_with fail
                            go_meet
                            case rel => exact ⟨none, 0, none, 0, rfl, HP10.out, World.ownsRow_nil _ _ _ _, World.ownsRow_nil _ _ _ _, Below.refl _ _, fun _ _ _ => rfl⟩
                      case rest =>
                       
                        obtain ⟨Ae, ce, Be, de, rfl, he10, hoe, hie, hbe, hke⟩ := hcut
                        obtain ⟨we, rfl⟩ : ∃ we : World, we = wc := ⟨_, rfl⟩
                        have hgp : gh < wp.heap.size := heap_lt HPX.out
                        have HE10 := Lib.hid he10
                        have HEX := Lib.hid ((hke gh hgp (by omega)).trans HPX.out)
                        have HEO := Lib.hid (HPO.out.keep2 (w' := we) fun p hp => hke p.block (HPO.out.block_ hp).2 (by have := (HPO.out.block_ hp).1; omega))
                        have HEI := Lib.hid (HPI.out.keep2 (w' := we) fun p hp => hke p.block (HPI.out.block_ hp).2 (by have := (HPI.out.block_ hp).1; omega))
                        have HOE := Lib.hid hoe
                        have HIE := Lib.hid hie
                        have HBE := Lib.hid (below_via HBP.out hbe (Nat.le_succ_of_le hl3r))
                        clear he10 hoe hie hbe hke P0 P1 R0 R1 R2 R3 HPS HP10 HPX HPO HPI HCP2
                        obtain ⟨hlle, hlld⟩ := lat_len pe pg ⟨b0, b1, b2, b3⟩
                        rw [← HLE.out] at hlle
                        rw [← HLD.out] at hlld
                        have HEQ := Lib.hid (fun W (hb : Below we.heap.size we W) => eqTLB_two le ld Ah ch Bh dh Ae ce Be de W (TlAt.of_own (HEO.out.below hb (Nat.le_refl _)) (HEI.out.below hb (Nat.le_refl _)) (by omega) (by omega)) (TlAt.of_own (HOE.out.below hb (Nat.le_refl _)) (HIE.out.below hb (Nat.le_refl _)) (by omega) (by omega)))
                        have x10 := fun j => cell_of_row _ _ j _ _ _ HE10.out
                        have xf10 := fun j => frozen_of_row _ _ j _ _ HE10.out
                        have xx := fun j => cell_of_row _ _ j _ _ _ HEX.out
                        have xxf := fun j => frozen_of_row _ _ j _ _ HEX.out
                        clear HLE HLD HLX
                        go_wp2_with (go_at_call 24; refine (HNU.out _ _).mono ?_; rintro e w' ⟨rfl, rfl⟩)
                        refine Calls.mono (HEQ.out _ (by repeat' (first | (with_reducible exact Below.refl _ _) | (with_reducible (refine Below.setCell ?_ ?_ _)) | (with_reducible (refine Below.alloc ?_ ?_ _)) | (with_reducible (refine Below.drew ?_)) | omega | (simp; done) | (simp; omega)))) ?_
                        rintro e w10 ⟨rfl, hb10⟩
                        have hs10 := hb10.size
                        try simp at hs10
                        have HB10 := Lib.hid hb10
                        clear hb10
                       
                        go_wp2_with fail
                        go_roundg (12 - (j + 1 + 1))
                        case rel => exact ⟨j + 1 + 1, by omega, by omega, rfl, by go_num, below_via HBV.out (below_via HBE.out HB10.out HBE.out.size) HBV.out.size⟩
                        case measure => have := HGM.out; omega
          · by_cases hka : m ≤ is_.length
            · obtain rfl : m = 12 := by omega
              have hmi : (12 : Int) ≤ is_.length := by omega
              go_wp2
              go_roundg (5 - (k + 1))
              case rel => exact ⟨k + 1, by omega, by omega, rfl, by go_num, (by repeat' (first | (with_reducible exact Below.refl _ _) | (with_reducible (refine Below.setCell ?_ ?_ _)) | (with_reducible (refine Below.alloc ?_ ?_ _)) | (with_reducible (refine Below.drew ?_)) | (with_reducible (refine below_via ?_ HBV.out ?_)) | (with_reducible (refine below_via ?_ HBW.out ?_)) | omega | (simp; done) | (simp; omega)))⟩
              case measure => have := HGK.out; omega
            · have hmi : ¬ (m : Int) ≤ is_.length := by omega
              go_wp2
              go_roundg (5 - (k + 1))
              case rel => exact ⟨k + 1, by omega, by omega, rfl, by go_num, (by repeat' (first | (with_reducible exact Below.refl _ _) | (with_reducible (refine Below.setCell ?_ ?_ _)) | (with_reducible (refine Below.alloc ?_ ?_ _)) | (with_reducible (refine Below.drew ?_)) | (with_reducible (refine below_via ?_ HBV.out ?_)) | (with_reducible (refine below_via ?_ HBW.out ?_)) | omega | (simp; done) | (simp; omega)))⟩
              case measure => have := HGK.out; omega
      · by_cases hka : k < ts.length
        · obtain rfl : k = 5 := by omega
          have hki : (5 : Int) < ts.length := by omega
          go_wp2_with fail
          refine Calls.mono (HWA.out _) ?_
          rintro e w5 ⟨rfl, hb5⟩
          have hs5 := hb5.size
          try simp at hs5
          have HB5 := Lib.hid hb5
          clear hb5
          go_wp2
          go_ret
          exact ⟨rfl, (by repeat' (first | (with_reducible exact Below.refl _ _) | (with_reducible (refine Below.setCell ?_ ?_ _)) | (with_reducible (refine Below.alloc ?_ ?_ _)) | (with_reducible (refine Below.drew ?_)) | (with_reducible (refine below_via ?_ HB5.out ?_)) | (with_reducible (refine below_via ?_ HBW.out ?_)) | (with_reducible (refine below_via ?_ HB.out ?_)) | omega | (simp; done) | (simp; omega)))⟩
        · have hki : ¬ (k : Int) < ts.length := by omega
          go_wp2_with fail
          refine Calls.mono (HWA.out _) ?_
          rintro e w5 ⟨rfl, hb5⟩
          have hs5 := hb5.size
          try simp at hs5
          have HB5 := Lib.hid hb5
          clear hb5
          go_wp2
          go_ret
          exact ⟨rfl, (by repeat' (first | (with_reducible exact Below.refl _ _) | (with_reducible (refine Below.setCell ?_ ?_ _)) | (with_reducible (refine Below.alloc ?_ ?_ _)) | (with_reducible (refine Below.drew ?_)) | (with_reducible (refine below_via ?_ HB5.out ?_)) | (with_reducible (refine below_via ?_ HBW.out ?_)) | (with_reducible (refine below_via ?_ HB.out ?_)) | omega | (simp; done) | (simp; omega)))⟩

end Go.Proofs.Ytbaninglcafhhaa
