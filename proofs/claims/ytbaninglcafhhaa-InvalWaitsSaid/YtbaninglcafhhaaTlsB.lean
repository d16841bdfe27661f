/-
  Rows of what is remembered: copied, the same, whether they may be. Conditions: the lengths fit.
-/
import Derived.Test.YtbaninglcafhhaaTlsA
import Derived.Test.YtbaninglcafhhaaOne
import Derived.Deep.DeepCutAuto
namespace Go.Proofs.Ytbaninglcafhhaa
open Go Go.RowKit

def tlsOk (ts : List Tl) : Bool := ts.all fun t => tlbOk t.es t.ds

set_option maxRecDepth 100000 in
set_option maxHeartbeats 8000000 in
theorem CopyTLBs_any (A : Option Addr) (c : Nat) (ts : List Tl) (w : World) (h : TlsAt w A ts) (hl : ts.length ≤ 1000000) (h1 : ∀ t ∈ ts, t.es.length ≤ 1000000 ∧ t.ds.length ≤ 1000000) :
    Calls Try.prog 43 #[.slice A ts.length c] w fun e w' => ∃ A' c' ts', e = .returned (.slice A' (ts' : List Tl).length c') ∧ TlsOwn w' w.heap.size A' c' ts' ∧ held ts' = held ts ∧ Below w.heap.size w w' := by
  obtain ⟨j0, hi0, hz0, hz1, hz2⟩ := info_parts tlb_info
  have HI0 := Lib.hid hi0
  have HZ0 := Lib.hid hz0
  have HZ1 := Lib.hid hz1
  have HZ2 := Lib.hid hz2
  have HA := Lib.hid h
  have H1 := Lib.hid h1
  clear hi0 hz0 hz1 hz2 h h1
  go_enter Try.func43, Try.ntmps43
  go_wp2_with fail
  go_loopg [3, 4] ts.length (fun gg v3 v4 wr => ∃ (k : Nat) (A' : Option Addr) (c' : Nat) (ts' : List Tl), k ≤ ts.length ∧ gg = ts.length - k ∧ v4 = .int .i64 k ∧ v3 = .slice A' ts'.length c' ∧ ts'.length ≤ k ∧ TlsOwn wr w.heap.size A' c' ts' ∧ held ts' = held (ts.take k) ∧ Below w.heap.size w wr)
  case atStart => exact ⟨0, none, 0, [], Nat.zero_le _, rfl, rfl, rfl, Nat.le_refl _, TlsOwn.nil, rfl, Below.refl _ _⟩
  case round =>
    obtain ⟨k, A', c', ts', hk, hgk, rfl, rfl, hkl, hto, hhe, hbw⟩ := hrel
    have HGK := Lib.hid hgk
    have HTO := Lib.hid hto
    have HHE := Lib.hid hhe
    have HBW := Lib.hid hbw
    have hsw := hbw.size
    clear hgk hto hhe hbw
    by_cases hlt : k < ts.length
    · have hki : (k : Int) < ts.length := by omega
      obtain ⟨b, off, rfl, hb, t0, t1⟩ := tl_cells HA.out.row HBW.out hlt
      have hbr : b < wr.heap.size := by omega
      have HST := Lib.hid (fun (y : Tl) (e1 : y.es = ts[k].es) (e2 : y.ds = ts[k].ds) => held_snoc HHE.out hlt e1 e2)
      have HCP := Lib.hid (fun W (hb : Below wr.heap.size wr W) => CopyTLB_any ts[k] W (((HA.out.each _ (List.getElem_mem hlt)).below HBW.out).below hb) (H1.out _ (List.getElem_mem hlt)).1 (H1.out _ (List.getElem_mem hlt)).2)
      generalize ts[k] = t at *
      obtain ⟨pa, pc, pe, pd, pf, pg⟩ := t
      dsimp only [Tl.cells] at *
      go_wp2_with fail
      refine Calls.mono (HCP.out _ (Below.refl _ _)) ?_
      rintro e w1 ⟨Ax, cx, Bx, dx, rfl, hox, hix, hb1⟩
      have hs1 := hb1.size
      try simp at hs1
      have HB1 := Lib.hid hb1
      clear hb1
      have Hhox := Lib.hid hox
      clear hox
      have Hhix := Lib.hid hix
      clear hix
      have HT1 := Lib.hid (HTO.out.below HB1.out)
      obtain ⟨ts2, hts2⟩ : ∃ x, x = ts' ++ [(⟨Ax, cx, pe, Bx, dx, pg⟩ : Tl)] := ⟨_, rfl⟩
      have HT2 := Lib.hid hts2
      have hl2 : ts2.length ≤ k + 1 := by rw [hts2, List.length_append]; simp; omega
      clear hts2
     
      go_upto_region 4 with (at_builtin; refine wpList_one rfl (.tmp 11) (.tmp 17) _ rfl w.heap.size tlbT j0 _ 2 48 Try.underlying22 HI0.out HZ0.out HZ1.out HZ2.out rfl (by omega) tl_len tl_ones ts' ts2 ⟨Ax, cx, pe, Bx, dx, pg⟩ HT2.out A' c' rfl (HT1.out.row.alloc _) _ rfl (heap_new _ _) (by simp only [maxLen]; omega) (by omega) (by simp; omega) ?_; intro A2 c2 w2 ho2 hb2 hk2; have HO2 := Lib.hid ho2; have HB2 := Lib.hid hb2; have HK2 := Lib.hid hk2; have hs2 := hb2.size; clear ho2 hb2 hk2; (try simp at hs2))
     
      have HT3 := Lib.hid (show TlsOwn w2 w.heap.size A2 c2 ts2 from TlsOwn.snoc (HT1.out.below ((Below.refl _ _).alloc (Nat.le_refl _) _)) HT2.out ((Hhox.out.mono (by omega)).alloc _) ((Hhix.out.mono (by omega)).alloc _) HO2.out HK2.out)
      have HH3 := Lib.hid (show held ts2 = held (ts.take (k + 1)) by rw [HT2.out]; exact HST.out _ rfl rfl)
      have HB3 := Lib.hid (below_via ((below_via HBW.out HB1.out HBW.out.size).alloc (by omega) _) HB2.out (Nat.le_refl _))
      clear HT1 HO2 HK2 HB2 HST Hhox Hhix t0 t1 HTO
      go_wp2_with fail
      go_roundg (ts.length - (k + 1))
      case rel => exact ⟨k + 1, A2, c2, ts2, by omega, rfl, by go_num, rfl, hl2, HT3.out, HH3.out, HB3.out⟩
      case measure => have := HGK.out; omega
    · have hki : ¬ (k : Int) < ts.length := by omega
      have HH2 := Lib.hid (show held ts' = held ts by rw [HHE.out, List.take_of_length_le (by omega)])
      go_wp2_with fail
      refine bodyPost_ret (v := .slice A' ts'.length c') (by simp [results, Try.results43, go_sem, *]) rfl ⟨A', c', ts', rfl, HTO.out, HH2.out, HBW.out⟩

set_option maxRecDepth 100000 in
set_option maxHeartbeats 8000000 in
theorem EqTLBs_same (A B : Option Addr) (c d : Nat) (xs ys : List Tl) (w : World) (hx : TlsAt w A xs) (hy : TlsAt w B ys) (hh : held xs = held ys) (hl : xs.length ≤ 1000000) :
    Calls Try.prog 48 #[.slice A xs.length c, .slice B ys.length d] w fun e w' => e = .returned (.bool true) ∧ Below w.heap.size w w' := by
  have HA := Lib.hid hx
  have HB := Lib.hid hy
  have HH := Lib.hid hh
  have hle := held_len hh
  obtain ⟨n, hn⟩ : ∃ n, ys.length = n := ⟨_, rfl⟩
  have HN := Lib.hid hn
  rw [hle] at hl ⊢
  rw [hn] at hl ⊢
  have HXN := Lib.hid (hle.trans hn)
  clear hx hy hh hle hn
  go_enter Try.func48, Try.ntmps48
  go_wp2_with fail
  go_loopg [5] n (fun gg v5 wr => ∃ k : Nat, k ≤ n ∧ gg = n - k ∧ v5 = .int .i64 k ∧ Below w.heap.size w wr)
  case atStart => exact ⟨0, Nat.zero_le _, rfl, rfl, Below.refl _ _⟩
  case round =>
    obtain ⟨k, hk, hgk, rfl, hbw⟩ := hrel
    have HGK := Lib.hid hgk
    have HBW := Lib.hid hbw
    have hsw := hbw.size
    clear hgk hbw
    by_cases hlt : k < n
    · have hki : (k : Int) < n := by omega
      have hlx : k < xs.length := by rw [HXN.out]; exact hlt
      have hly : k < ys.length := by rw [HN.out]; exact hlt
      obtain ⟨b, off, rfl, hb, t0, t1⟩ := tl_cells HA.out.row HBW.out hlx
      obtain ⟨b', off', rfl, hb', s0, s1⟩ := tl_cells HB.out.row HBW.out hly
      have hbr : b < wr.heap.size := by omega
      have hbr' : b' < wr.heap.size := by omega
      obtain ⟨e1, e2⟩ := held_get HH.out hlx hly
      have HEQ := Lib.hid (fun W (hb : Below wr.heap.size wr W) => EqTLB_same xs[k] ys[k] W (((HA.out.each _ (List.getElem_mem hlx)).below HBW.out).below hb) (((HB.out.each _ (List.getElem_mem hly)).below HBW.out).below hb) e1 e2)
      clear e1 e2
      generalize xs[k] = t at *
      generalize ys[k] = s at *
      obtain ⟨pa, pc, pe, pd, pf, pg⟩ := t
      obtain ⟨qa, qc, qe, qd, qf, qg⟩ := s
      dsimp only [Tl.cells] at *
      go_upto_region 6 with fail
     
      refine wp_region_class (fun w' => Below (wr.heap.size) (wr) w') (by kernel_rfl) (by kernel_rfl) (Below.refl _ _).drew ?_
      repeat (first
        | (refine wpLex_pass (by rfl) passes_plain ?_; (conv => arg 9; simp only [put_lit, put_lit_none, List.set]))
        | (refine wpLex_plain (by rfl) ?_
           apply Exists.intro
           refine ⟨?_, ?_⟩
           · intro w' hb
             have hsz := hb.size
             try simp at hsz
             have hcw := fun b o (h : b < wr.heap.size) => hb.cell (p := ⟨b, o, none⟩) h
             have hfw := fun b o (h : b < wr.heap.size) => hb.frozen (p := ⟨b, o, none⟩) h
             go_simp
             first
               | exact ⟨rfl, hb⟩
               | exact rfl
               | ((with_reducible refine Calls.mono (HEQ.out _ (by repeat' (first | (with_reducible exact Below.refl _ _) | (with_reducible (refine Below.setCell ?_ ?_ _)) | (with_reducible (refine Below.alloc ?_ ?_ _)) | (with_reducible (refine Below.drew ?_)) | (with_reducible (refine below_via ?_ hb ?_)) | omega | (simp; done) | (simp; omega)))) ?_); rintro e w2 ⟨rfl, hb2⟩; exact ⟨_, rfl, rfl, hb.trans (hb2.mono hsz)⟩)
           conv => arg 9; simp only [put_lit, put_lit_none, List.set]))
      refine wpLex_nil ?_
      intro wg hbg
      have hsg := hbg.size
      try simp at hsg
      have hcg := fun b o (h : b < wr.heap.size) => hbg.cell (p := ⟨b, o, none⟩) h
      have hfg := fun b o (h : b < wr.heap.size) => hbg.frozen (p := ⟨b, o, none⟩) h
      have HBg := Lib.hid hbg
      clear hbg
      clear hcg hfg t0 t1 s0 s1
      go_wp2_with fail
      go_roundg (n - (k + 1))
      case rel => exact ⟨k + 1, by omega, rfl, by go_num, below_via HBW.out HBg.out HBW.out.size⟩
      case measure => have := HGK.out; omega
    · have hki : ¬ (k : Int) < n := by omega
      go_wp2
      go_ret
      exact ⟨rfl, HBW.out⟩

theorem tlsOk_bad {ts : List Tl} {k : Nat} (hk : k < ts.length) (h : tlbOk ts[k].es ts[k].ds = false) : tlsOk ts = false := by
  unfold tlsOk
  rw [List.all_eq_false]
  exact ⟨ts[k], List.getElem_mem hk, by rw [h]; decide⟩
theorem tlsOk_all {ts : List Tl} (h : ∀ k (hk : k < ts.length), tlbOk ts[k].es ts[k].ds = true) : tlsOk ts = true := by
  unfold tlsOk
  rw [List.all_eq_true]
  intro t ht
  obtain ⟨k, hk, rfl⟩ := List.getElem_of_mem ht
  exact h k hk

set_option maxRecDepth 100000 in
set_option maxHeartbeats 8000000 in
/-- Do all of them may be? The page's. -/
theorem rTLBs_any (A : Option Addr) (c : Nat) (ts : List Tl) (w : World) (h : TlsAt w A ts) (hl : ts.length ≤ 1000000) :
    Calls Try.prog 45 #[.slice A ts.length c] w fun e w' => e = .returned (.bool (tlsOk ts)) ∧ Below w.heap.size w w' := by
  have HA := Lib.hid h
  clear h
  go_enter Try.func45, Try.ntmps45
  go_wp2_with fail
  go_loopg [3] ts.length (fun gg v3 wr => ∃ k : Nat, k ≤ ts.length ∧ gg = ts.length - k ∧ v3 = .int .i64 k ∧ (∀ j (hj : j < ts.length), j < k → tlbOk ts[j].es ts[j].ds = true) ∧ Below w.heap.size w wr)
  case atStart => exact ⟨0, Nat.zero_le _, rfl, rfl, fun _ _ h => absurd h (Nat.not_lt_zero _), Below.refl _ _⟩
  case round =>
    obtain ⟨k, hk, hgk, rfl, hall, hbw⟩ := hrel
    have HGK := Lib.hid hgk
    have HAL := Lib.hid hall
    have HBW := Lib.hid hbw
    have hsw := hbw.size
    clear hgk hall hbw
    by_cases hlt : k < ts.length
    · have hki : (k : Int) < ts.length := by omega
      obtain ⟨b, off, rfl, hb, t0, t1⟩ := tl_cells HA.out.row HBW.out hlt
      have hbr : b < wr.heap.size := by omega
      have HCK := Lib.hid (fun W (hb : Below wr.heap.size wr W) => rTLB_any ts[k] W (((HA.out.each _ (List.getElem_mem hlt)).below HBW.out).below hb))
      have HBD := Lib.hid (fun h => tlsOk_bad hlt h)
      have HST := Lib.hid (show tlbOk ts[k].es ts[k].ds = true → ∀ j (hj : j < ts.length), j < k + 1 → tlbOk ts[j].es ts[j].ds = true from fun h j hj hjk => by
        by_cases he : j = k
        · subst he; exact h
        · exact HAL.out j hj (by omega))
      obtain ⟨ok, hok⟩ : ∃ x, tlbOk ts[k].es ts[k].ds = x := ⟨_, rfl⟩
      rw [hok] at HCK HBD HST
      clear hok
      generalize ts[k] = t at *
      obtain ⟨pa, pc, pe, pd, pf, pg⟩ := t
      dsimp only [Tl.cells] at *
      cases ok
      · have HB0 := Lib.hid (HBD.out rfl)
        go_wp2_with fail
        refine Calls.mono (HCK.out _ (Below.refl _ _)) ?_
        rintro e w1 ⟨rfl, hb1⟩
        have hs1 := hb1.size
        try simp at hs1
        have HB1 := Lib.hid hb1
        clear hb1
        clear t0 t1
        go_wp2
        go_ret
        exact ⟨by rw [HB0.out]; rfl, (by repeat' (first | (with_reducible exact Below.refl _ _) | (with_reducible (refine Below.setCell ?_ ?_ _)) | (with_reducible (refine Below.alloc ?_ ?_ _)) | (with_reducible (refine Below.drew ?_)) | (with_reducible (refine below_via ?_ HB1.out ?_)) | (with_reducible (refine below_via ?_ HBW.out ?_)) | omega | (simp; done) | (simp; omega)))⟩
      · have HS0 := Lib.hid (HST.out rfl)
        go_wp2_with fail
        refine Calls.mono (HCK.out _ (Below.refl _ _)) ?_
        rintro e w1 ⟨rfl, hb1⟩
        have hs1 := hb1.size
        try simp at hs1
        have HB1 := Lib.hid hb1
        clear hb1
        clear t0 t1
        go_wp2_with fail
        go_roundg (ts.length - (k + 1))
        case rel => exact ⟨k + 1, by omega, rfl, by go_num, HS0.out, (by repeat' (first | (with_reducible exact Below.refl _ _) | (with_reducible (refine Below.setCell ?_ ?_ _)) | (with_reducible (refine Below.alloc ?_ ?_ _)) | (with_reducible (refine Below.drew ?_)) | (with_reducible (refine below_via ?_ HB1.out ?_)) | (with_reducible (refine below_via ?_ HBW.out ?_)) | omega | (simp; done) | (simp; omega)))⟩
        case measure => have := HGK.out; omega
    · have hki : ¬ (k : Int) < ts.length := by omega
      have HAL2 := Lib.hid (tlsOk_all (ts := ts) fun j hj => HAL.out j hj (by omega))
      go_wp2
      go_ret
      exact ⟨by rw [HAL2.out]; rfl, HBW.out⟩

end Go.Proofs.Ytbaninglcafhhaa
