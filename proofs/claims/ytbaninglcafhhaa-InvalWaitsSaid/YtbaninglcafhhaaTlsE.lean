/-
  All rows behind what one waits for: the page's answer; a row of them scribbled over. Conditions: the lengths fit.
-/
import Derived.Test.YtbaninglcafhhaaTlsD
import Derived.Test.YtbaninglcafhhaaLzP
namespace Go.Proofs.Ytbaninglcafhhaa
open Go Go.RowKit

set_option maxRecDepth 100000 in
set_option maxHeartbeats 16000000 in
theorem rWait_any (A : Option Addr) (c : Nat) (ts : List Tl) (m : Nat) (w : World) (h : TlsAt w A ts) (hl : ts.length ≤ 1000000) (hok : tlsOk ts = true) (hm : m < ts.length) :
    Calls Try.prog 47 #[.slice A ts.length c, .int .i64 m] w fun e w' => ∃ A' c' xs, e = .returned (.slice A' (xs : List Tl).length c') ∧ TlsRow w' w.heap.size A' xs ∧ held xs = noDue ((held ts).map (goneT ts[m].ds)) m ∧ Below w.heap.size w w' := by
  obtain ⟨j0, hi0, hz0, hz1, hz2⟩ := info_parts tlb_info
  have HI0 := Lib.hid hi0
  have HZ0 := Lib.hid hz0
  have HZ1 := Lib.hid hz1
  have HZ2 := Lib.hid hz2
  have HA := Lib.hid h
  have HOK := Lib.hid hok
  clear hi0 hz0 hz1 hz2 h hok
  obtain ⟨bm, om, rfl, hbm, m0, m1⟩ := tl_cells HA.out.row (Below.refl _ _) hm
  have hmt := HA.out.each ts[m] (List.getElem_mem hm)
  have HDA := Lib.hid hmt.dat
  have hdl := hmt.dlen
  have HDO := Lib.hid (tlbOk_ents (tlsOk_at HOK.out hm)).2.2.2
  clear m0 hmt
  obtain ⟨tm, htm⟩ : ∃ x, ts[m] = x := ⟨_, rfl⟩
  rw [htm] at m1 HDA HDO hdl ⊢
  clear htm
  obtain ⟨ma, mc, me, md, mf, mg⟩ := tm
  dsimp only at m1 HDA HDO hdl ⊢
  go_enter Try.func47, Try.ntmps47
  have hmi : (m : Int) < ts.length := by omega
  go_wp2_with fail
  clear m1
 
  go_loopg [6, 7] ts.length (fun gg v6 v7 wr => ∃ (k : Nat) (A' : Option Addr) (c' : Nat) (ts' : List Tl), k ≤ ts.length ∧ gg = ts.length - k ∧ v7 = .int .i64 k ∧ v6 = .slice A' ts'.length c' ∧ ts'.length ≤ k ∧ k ≤ ts'.length ∧ TlsOwn wr w.heap.size A' c' ts' ∧ held ts' = (held (ts.take k)).map (goneT mg) ∧ Below w.heap.size w wr)
  case atStart => exact ⟨0, none, 0, [], Nat.zero_le _, rfl, rfl, rfl, Nat.le_refl _, Nat.le_refl _, TlsOwn.nil, rfl, Below.refl _ _⟩
  case round =>
    obtain ⟨k, A', c', ts', hk, hgk, rfl, rfl, hkl, hkg, hto, hhe, hbw⟩ := hrel
    have HGK := Lib.hid hgk
    have HTO := Lib.hid hto
    have HHE := Lib.hid hhe
    have HBW := Lib.hid hbw
    have hsw := hbw.size
    clear hgk hto hhe hbw
    by_cases hlt : k < ts.length
    · have hki : (k : Int) < ts.length := by omega
      obtain ⟨b, off, hbe, hb, t0, t1⟩ := tl_cells HA.out.row HBW.out hlt
      injection hbe with hbe
      injection hbe with hb1 hb2
      subst hb1 hb2
      have hbr : bm < wr.heap.size := by omega
      have HST := Lib.hid (fun (y : Tl) (e1 : y.es = ts[k].es.filter fun e => !goneE mg e) (e2 : y.ds = ts[k].ds) => held_gone_snoc HHE.out hlt e1 e2)
      have HEN := tlbOk_ents (tlsOk_at HOK.out hlt)
      have HAP := Lib.hid (fun W (hb : Below wr.heap.size wr W) => rApply_any ts[k] md mf mg W (((HA.out.each _ (List.getElem_mem hlt)).below HBW.out).below hb) hdl ((HDA.out.below HBW.out).below hb) (by have := HEN.1; omega) (by have := HEN.2.1; omega) HEN.2.2.1 HDO.out)
      clear HEN
      generalize ts[k] = t at *
      obtain ⟨pa, pc, pe, pd, pf, pg⟩ := t
      dsimp only [Tl.cells] at *
      obtain ⟨ge, hge⟩ : ∃ x, x = pe.filter fun e => !goneE mg e := ⟨_, rfl⟩
      rw [← hge] at HST HAP
      clear hge
      go_wp2_with fail
      refine Calls.mono (HAP.out _ (Below.refl _ _)) ?_
      rintro e w1 ⟨Ax, cx, Bx, dx, rfl, hox, hix, hb1⟩
      have hs1 := hb1.size
      try simp at hs1
      have HB1 := Lib.hid hb1
      clear hb1
      have Hhox := Lib.hid hox
      clear hox
      have Hhix := Lib.hid hix
      clear hix
      have HT1 := Lib.hid (HTO.out.below HB1.out)
      obtain ⟨ts2, hts2⟩ : ∃ x, x = ts' ++ [(⟨Ax, cx, ge, Bx, dx, pg⟩ : Tl)] := ⟨_, rfl⟩
      have HT2 := Lib.hid hts2
      have hl2 : ts2.length ≤ k + 1 := by rw [hts2, List.length_append]; simp; omega
      have hg2 : k + 1 ≤ ts2.length := by rw [hts2, List.length_append]; simp; omega
      clear hts2
     
      go_upto_region 5 with (at_builtin; refine wpList_one rfl (.tmp 19) (.tmp 26) _ rfl w.heap.size tlbT j0 _ 2 48 Try.underlying22 HI0.out HZ0.out HZ1.out HZ2.out rfl (by omega) tl_len tl_ones ts' ts2 ⟨Ax, cx, ge, Bx, dx, pg⟩ HT2.out A' c' rfl (HT1.out.row.alloc _) _ rfl (heap_new _ _) (by simp only [maxLen]; omega) (by omega) (by simp; omega) ?_; intro A2 c2 w3 ho2 hb3 hk2; have HO2 := Lib.hid ho2; have HB3 := Lib.hid hb3; have HK2 := Lib.hid hk2; have hs3 := hb3.size; clear ho2 hb3 hk2; (try simp at hs3))
     
      have HT3 := Lib.hid (show TlsOwn w3 w.heap.size A2 c2 ts2 from TlsOwn.snoc (HT1.out.below ((Below.refl _ _).alloc (Nat.le_refl _) _)) HT2.out ((Hhox.out.mono (by omega)).alloc _) ((Hhix.out.mono (by omega)).alloc _) HO2.out HK2.out)
      have HH3 := Lib.hid (show held ts2 = (held (ts.take (k + 1))).map (goneT mg) by rw [HT2.out]; exact HST.out _ rfl rfl)
      have HB4 := Lib.hid (below_via ((below_via HBW.out HB1.out HBW.out.size).alloc (by omega) _) HB3.out (Nat.le_refl _))
      clear HT1 HO2 HK2 HB3 HST Hhox Hhix HTO t0 t1
      go_wp2_with fail
      go_roundg (ts.length - (k + 1))
      case rel => exact ⟨k + 1, A2, c2, ts2, by omega, rfl, by go_num, rfl, hl2, hg2, HT3.out, HH3.out, HB4.out⟩
      case measure => have := HGK.out; omega
    · have hki : ¬ (k : Int) < ts.length := by omega
      have hmt : m < ts'.length := by omega
      obtain ⟨g, hge, hgB, cs, hgc⟩ := HTO.out.block_ (by omega)
      subst hge
      have hmj : (m : Int) < ts'.length := by omega
      have HSK := Lib.hid (HTO.out.strike hmt)
      obtain ⟨s0, s1⟩ : (∃ u, wr.cell? ⟨g, m * 2, none⟩ = some u) ∧ ∃ u, wr.cell? ⟨g, m * 2 + 1, none⟩ = some u := by
        obtain ⟨b, off, e, _, c0, c1⟩ := tl_cells (HTO.out.row.at_ tl_len) (Below.refl _ _) hmt
        injection e with e
        injection e with e1 e2
        subst e1 e2
        rw [Nat.zero_add] at c0 c1
        exact ⟨⟨_, c0⟩, ⟨_, c1⟩⟩
      obtain ⟨u0, s0⟩ := s0
      obtain ⟨u1, s1⟩ := s1
      have gf := fun j => frozen_of_row _ _ j _ _ hgc
      clear hgc
      have HH3 := Lib.hid (show held (noDueT ts' m) = noDue ((held ts).map (goneT mg)) m by rw [held_noDue, HHE.out, List.take_of_length_le (by omega)])
      have HBS := Lib.hid (show Below w.heap.size w (wr.setCell ⟨g, m * 2 + 1, none⟩ (.slice none 0 0)) from HBW.out.setCell hgB _)
     
      go_wp2_with fail
     
      refine bodyPost_ret (v := .slice (some ⟨g, 0, none⟩) ts'.length c') (by simp [results, Try.results47, go_sem, *]) rfl ⟨some ⟨g, 0, none⟩, c', noDueT ts' m, by rw [noDueT_len], HSK.out, HH3.out, HBS.out⟩

theorem cell_set_ne {w : World} {z a x : Nat} {u : Value} (h : a ≠ x) : (w.setCell ⟨z, a, none⟩ u).cell? ⟨z, x, none⟩ = w.cell? ⟨z, x, none⟩ := World.cell?_setCell_other _ _ _ _ (fun e => h (by injection e))
theorem cell_heap {w w' : World} {z : Nat} (h : w'.heap[z]? = w.heap[z]?) (x : Nat) : w'.cell? ⟨z, x, none⟩ = w.cell? ⟨z, x, none⟩ := by simp [World.cell?, h]
/-- All the rows' rows may be stored to. -/
def RoomsT (B : Nat) (ts : List Tl) (W : World) : Prop := ∀ t ∈ ts, Room W B 14 t.ea t.es.length ∧ Room W B 4 t.da t.ds.length
theorem RoomsT.set_ {B : Nat} {ts : List Tl} (W : World) (p : Addr) (u : Value) (h : RoomsT B ts W) : RoomsT B ts (W.setCell p u) := fun t ht => ⟨(h t ht).1.set_ p u, (h t ht).2.set_ p u⟩
theorem RoomsT.alloc {B : Nat} {ts : List Tl} (W : World) (o : Obj) (h : RoomsT B ts W) : RoomsT B ts (W.alloc o) := fun t ht => ⟨(h t ht).1.alloc o, (h t ht).2.alloc o⟩

/-- While the row is scribbled over. -/
structure LzT (B : Nat) (w : World) (z off : Nat) (ts : List Tl) (k : Nat) (wr : World) : Prop where
  below : Below B w wr
  rooms : RoomsT B ts wr
  room : Room wr B 2 (some ⟨z, off, none⟩) ts.length
  left : ∀ j (hj : j < ts.length), k ≤ j → wr.cell? ⟨z, off + j * 2, none⟩ = some (.slice ts[j].ea ts[j].es.length ts[j].ec) ∧ wr.cell? ⟨z, off + j * 2 + 1, none⟩ = some (.slice ts[j].da ts[j].ds.length ts[j].dc)

set_option maxRecDepth 100000 in
set_option maxHeartbeats 8000000 in
theorem scrawls_any (B : Nat) (A : Option Addr) (c : Nat) (ts : List Tl) (w : World) (h : TlsRow w B A ts) (hl : ts.length ≤ 1000000) (hll : ∀ t ∈ ts, t.es.length ≤ 1000000 ∧ t.ds.length ≤ 1000000) (hB : B ≤ w.heap.size) :
    Calls Try.prog 49 #[.slice A ts.length c] w fun e w' => e = .returned (.tuple #[]) ∧ Below B w w' := by
  by_cases h0 : ts.length = 0
  · obtain rfl : ts = [] := List.eq_nil_of_length_eq_zero h0
    clear h
    go_enter Try.func49, Try.ntmps49
    go_wp2_with fail
    go_loopg [2] 0 (fun gg v2 wr => v2 = .int .i64 0 ∧ Below B w wr)
    case atStart => exact ⟨rfl, Below.refl _ _⟩
    case round =>
      obtain ⟨rfl, hbw⟩ := hrel
      have HBW := Lib.hid hbw
      clear hbw
      go_wp2
      go_end0
      exact ⟨rfl, HBW.out⟩
  · obtain ⟨z, off, rfl, hzb, hc⟩ := h.row (by omega)
    obtain ⟨cs, hcs⟩ := h.typ _ rfl
    have HNE := Lib.hid (show ∀ t ∈ ts, (∀ p : Addr, t.ea = some p → p.block ≠ z) ∧ (∀ p : Addr, t.da = some p → p.block ≠ z) from fun t ht => ⟨fun p hp => Own.ne_blk (h.ents t ht) hcs (by decide) p hp, fun p hp => Own.ne_blk (h.dues t ht) hcs (by decide) p hp⟩)
    have HZB := Lib.hid hzb
    have HLL := Lib.hid hll
    have HS := Lib.hid (show LzT B w z off ts 0 w from ⟨Below.refl _ _, fun t ht => ⟨Room.of_own (h.ents t ht), Room.of_own (h.dues t ht)⟩, h.room, fun j hj _ => ⟨by have := hc j hj 0 _ rfl; simpa using this, hc j hj 1 _ rfl⟩⟩)
    clear h hc hcs hll h0
    go_enter Try.func49, Try.ntmps49
    go_wp2_with fail
    go_loopg [2] ts.length (fun gg v2 wr => ∃ k : Nat, k ≤ ts.length ∧ gg = ts.length - k ∧ v2 = .int .i64 k ∧ LzT B w z off ts k wr)
    case atStart => exact ⟨0, Nat.zero_le _, rfl, rfl, HS.out⟩
    case round =>
      obtain ⟨k, hk, hgk, rfl, hlz⟩ := hrel
      have HGK := Lib.hid hgk
      have HLZ := Lib.hid hlz
      have hsw := hlz.below.size
      clear hgk hlz
      by_cases hlt : k < ts.length
      · have hki : (k : Int) < ts.length := by omega
        obtain ⟨t0, t1⟩ := HLZ.out.left k hlt (Nat.le_refl _)
        obtain ⟨zb, zo, zcs, zt, ze, zB, zh, zs⟩ := HLZ.out.room (by omega)
        injection ze with ze
        injection ze with ze1 ze2
        subst ze1 ze2
        have ZH := Lib.hid zh
        have zl := heap_lt zh
        have hrm := HLZ.out.rooms ts[k] (List.getElem_mem hlt)
        have hne := HNE.out ts[k] (List.getElem_mem hlt)
        have hln := HLL.out ts[k] (List.getElem_mem hlt)
        have HSC := Lib.hid (scrawl_prop (fun W => RoomsT B ts W ∧ Room W B 2 (some ⟨z, off, none⟩) ts.length) (fun W p u h => ⟨RoomsT.set_ W p u h.1, h.2.set_ p u⟩) (fun W o h => ⟨RoomsT.alloc W o h.1, h.2.alloc o⟩) z ts[k].ea ts[k].es.length ts[k].ec ts[k].da ts[k].ds.length ts[k].dc B wr (by omega) (by omega) (by omega) hrm.1 hrm.2 zl hne.1 hne.2 ⟨HLZ.out.rooms, HLZ.out.room⟩)
        have HLF := Lib.hid (fun j hj hjk => HLZ.out.left j hj hjk)
        have HBE := Lib.hid HLZ.out.below
        clear hrm hne hln zh HLZ
        obtain ⟨tk, htk⟩ : ∃ x, ts[k] = x := ⟨_, rfl⟩
        rw [htk] at t0 t1 HSC
        clear htk
        obtain ⟨pa, pc, pe, pd, pf, pg⟩ := tk
        dsimp only at t0 t1 HSC
        have zf := fun j => frozen_of_row _ _ j _ _ ZH.out
       
        go_wp2_with fail
        refine Calls.mono HSC.out ?_
        rintro e w1 ⟨rfl, hb1, hz1, hp1, hp2⟩
        have hs1 := hb1.size
        have ZH1 := Lib.hid (hz1.trans ZH.out)
        have HB1 := Lib.hid (HBE.out.trans hb1)
        have HP1 := Lib.hid hp1
        have HP2 := Lib.hid hp2
        have HZ1 := Lib.hid hz1
        have t0' : w1.cell? ⟨z, off + k * 2, none⟩ = some (.slice pa pe.length pc) := (cell_heap hz1 _).trans t0
        have t1' : w1.cell? ⟨z, off + k * 2 + 1, none⟩ = some (.slice pd pg.length pf) := (cell_heap hz1 _).trans t1
        clear zf t0 t1 hb1 hz1 hp1 hp2 HSC
        have zf := fun j => frozen_of_row _ _ j _ _ ZH1.out
       
        go_wp2_with fail
        have HLZ2 := Lib.hid (show LzT B w z off ts (k + 1) ((w1.setCell ⟨z, off + k * 2, none⟩ (.slice none 0 0)).setCell ⟨z, off + k * 2 + 1, none⟩ (.slice none 0 0)) from
          ⟨(HB1.out.setCell zB _).setCell zB _, RoomsT.set_ _ _ _ (RoomsT.set_ _ _ _ HP1.out), (HP2.out.set_ _ _).set_ _ _, fun j hj hjk => by
            obtain ⟨l0, l1⟩ := HLF.out j hj (by omega)
            rw [cell_set_ne (by omega), cell_set_ne (by omega), cell_set_ne (by omega), cell_set_ne (by omega), cell_heap HZ1.out, cell_heap HZ1.out]
            exact ⟨l0, l1⟩⟩)
        go_roundg (ts.length - (k + 1))
        case rel => exact ⟨k + 1, by omega, rfl, by go_num, HLZ2.out⟩
        case measure => have := HGK.out; omega
      · have hki : ¬ (k : Int) < ts.length := by omega
       
        go_wp2
        go_end0
        exact ⟨rfl, HLZ.out.below⟩

end Go.Proofs.Ytbaninglcafhhaa
