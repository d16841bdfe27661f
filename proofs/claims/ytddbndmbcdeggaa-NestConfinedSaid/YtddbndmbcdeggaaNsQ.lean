/-
  All tables of stage 2, and all frames that it lets be read: the statement's own row of them. Conditions: stage 2 may be asked.
-/
import Derived.Test.YtddbndmbcdeggaaNsP
import Derived.Test.YtddbndmbcdeggaaTwo
namespace Go.Proofs.Ytddbndmbcdeggaa
open Go Go.RowKit

/-- The rows hold what stage 2 gives away for the first intermediate pages. -/
def Holds2 (ws : List Int) (two : Rt) (m : Nat) (tabs lets : List Int) : Prop := ∀ i : Nat, i < m → (∀ x ∈ (midRes ws two i 0).2.2, x ∈ tabs) ∧ ((midRes ws two i 0).2.1.kind = 0 → (midRes ws two i 0).1.frame ∈ lets)
theorem Holds2.zero {ws : List Int} {two : Rt} {t l : List Int} : Holds2 ws two 0 t l := fun _ h => absurd h (Nat.not_lt_zero _)
theorem Holds2.step {ws : List Int} {two : Rt} {m : Nat} {t l t' l' : List Int} {r : Ht × Ft × List Int} (h : Holds2 ws two m t l) (hr : midRes ws two m 0 = r) (h1 : ∀ x ∈ t, x ∈ t') (h2 : ∀ x ∈ l, x ∈ l') (h3 : ∀ x ∈ r.2.2, x ∈ t') (h4 : r.2.1.kind = 0 → r.1.frame ∈ l') : Holds2 ws two (m + 1) t' l' := fun i hi => by
  by_cases he : i = m
  · subst he
    rw [hr]
    exact ⟨h3, h4⟩
  · have := h i (by omega)
    exact ⟨fun x hx => h1 x (this.1 x hx), fun hk => h2 _ (this.2 hk)⟩
/-- Two rows that lie apart. -/
def Apart (T L : Option Addr) : Prop := ∀ p q : Addr, T = some p → L = some q → p.block ≠ q.block
/-- A row after it has grown: where it was, or new. -/
def Moved (n : Nat) (T T' : Option Addr) : Prop := ∀ q : Addr, T' = some q → n ≤ q.block ∨ ∃ p : Addr, T = some p ∧ p.block = q.block
/-- Of what was there nothing has turned, but for one row's block. -/
def KeepR (T : Option Addr) (w w' : World) : Prop := ∀ b, b < w.heap.size → (∀ p : Addr, T = some p → p.block ≠ b) → w'.heap[b]? = w.heap[b]?

set_option maxRecDepth 100000 in
set_option maxHeartbeats 16000000 in
theorem reach_any (A : Option Addr) (c : Nat) (ws : List Int) (two : Rt) (w : World) (hA : MeAt w A c ws) (hm : memOk ws.length = true) (hf : numOk two.frame 4095 = true) :
    Calls Try.prog 34 #[.agg #[.slice A ws.length c], .agg two.cells.toArray] w fun e w' =>
      ∃ T ct tabs L cl lets, e = .returned (.tuple #[.slice T (tabs : List Int).length ct, .slice L (lets : List Int).length cl]) ∧ Own w' w.heap.size intT 1 intCells tabs T ct ∧ Own w' w.heap.size intT 1 intCells lets L cl ∧ tabs.length ≤ 20000 ∧ lets.length ≤ 5000 ∧ Holds2 ws two 4096 tabs lets ∧ Below w.heap.size w w' := by
  have HMI := Lib.hid (fun (m : Nat) (h : m < 4096) W (hb : Below w.heap.size w W) => by
    have hmok := midOk_of (acc := 0) rfl hm hf (num_mid (x := m) (by omega) (by omega))
    have h := rMid_any A c ws two m 0 W (hA.below hb) hmok
    rw [← midRes_of hmok] at h
    exact h)
  have HML := Lib.hid (fun (m : Int) => midRes_len ws two m 0)
  obtain ⟨j0, hi0, hz0, hz1, hz2⟩ := info_parts int_info
  have HI0 := Lib.hid hi0
  have HZ0 := Lib.hid hz0
  have HZ1 := Lib.hid hz1
  have HZ2 := Lib.hid hz2
  clear hi0 hz0 hz1 hz2 hA hm hf
  obtain ⟨n, hn⟩ : ∃ n, ws.length = n := ⟨_, rfl⟩
  rw [hn] at HMI ⊢
  clear hn
  unfold WPost at HMI
  have HRES := Lib.hid (fun (m : Nat) => show ∃ r, midRes ws two m 0 = r from ⟨_, rfl⟩)
  obtain ⟨on2, of2, ot2⟩ := two
  dsimp only [Rt.cells] at HMI ⊢
  go_enter Try.func34, Try.ntmps34
  go_wp2_with fail
  go_loopg [6, 7, 8] 4096 (fun gg v6 v7 v8 wr => ∃ (m : Nat) (T : Option Addr) (ct : Nat) (tabs : List Int) (L : Option Addr) (cl : Nat) (lets : List Int), m ≤ 4096 ∧ gg = 4096 - m ∧ v8 = .int .i64 m ∧ v6 = .slice T tabs.length ct ∧ v7 = .slice L lets.length cl ∧
    Own wr (w.heap.size + 2) intT 1 intCells tabs T ct ∧ Own wr (w.heap.size + 2) intT 1 intCells lets L cl ∧ Apart T L ∧ tabs.length ≤ 4 * m ∧ lets.length ≤ m ∧ Holds2 ws ⟨on2, of2, ot2⟩ m tabs lets ∧
    wr.heap[w.heap.size]? = some (.cells #[.slice A n c] 24 (0, 0)) ∧ wr.heap[w.heap.size + 1]? = some (.cells #[.bool on2, .int .i64 of2, .int .i64 ot2] rootT (0, 0)) ∧ Below w.heap.size w wr)
  case atStart => exact ⟨0, none, 0, [], none, 0, [], by omega, rfl, rfl, rfl, rfl, World.ownsRow_nil _ _ _ _, World.ownsRow_nil _ _ _ _, (fun p q h => by cases h), Nat.le_refl _, Nat.le_refl _, Holds2.zero, (by repeat (first | (with_reducible assumption) | (exact heap_at _ _ (by simp; done)) | (with_reducible refine heap_old_is _ _ (by (first | omega | (simp; done) | (simp; omega))) ?_) | (with_reducible refine heap_far_is (by (first | omega | (simp; done) | (simp; omega))) ?_))), (by repeat (first | (with_reducible assumption) | (exact heap_at _ _ (by simp; done)) | (with_reducible refine heap_old_is _ _ (by (first | omega | (simp; done) | (simp; omega))) ?_) | (with_reducible refine heap_far_is (by (first | omega | (simp; done) | (simp; omega))) ?_))), (by repeat' (first | (with_reducible exact Below.refl _ _) | (with_reducible (refine Below.setCell ?_ ?_ _)) | (with_reducible (refine Below.alloc ?_ ?_ _)) | (with_reducible (refine Below.drew ?_)) | omega | (simp; done) | (simp; omega)))⟩
  case round =>
    obtain ⟨m, T, ct, tabs, L, cl, lets, hm, hgk, rfl, rfl, rfl, hot, hol, hap, htl, hll, hho, hx2, hx3, hbw⟩ := hrel
    have HGK := Lib.hid hgk
    have HOT := Lib.hid hot
    have HOL := Lib.hid hol
    have HAP := Lib.hid hap
    have HHO := Lib.hid hho
    have X2 := Lib.hid hx2
    have X3 := Lib.hid hx3
    have HBW := Lib.hid hbw
    have hsw := hbw.size
    have hl3 := heap_lt hx3
    clear hgk hot hol hap hho hx2 hx3 hbw
    by_cases hlt : m < 4096
    · have hmi : (m : Int) ≤ 4095 := by omega
      have HM0 := Lib.hid (HMI.out m hlt wr HBW.out)
      have hml := HML.out m
      obtain ⟨mr, hmr⟩ := HRES.out m
      rw [hmr] at HM0 hml
      have HMR := Lib.hid hmr
      clear hmr
      obtain ⟨⟨l0, l1, l2, l3, l4, l5, l6, l7, l8⟩, ⟨m0, m1, m2, m3, m4⟩, rm⟩ := mr
      dsimp only [Ht.cells, Ft.cells] at HM0 hml
      have x2 := fun j => cell_of_row _ _ j _ _ _ X2.out
      have x3 := fun j => cell_of_row _ _ j _ _ _ X3.out
      have xf2 := fun j => frozen_of_row _ _ j _ _ X2.out
      have xf3 := fun j => frozen_of_row _ _ j _ _ X3.out
      have hl2 := heap_lt X2.out
      obtain ⟨wo, rfl⟩ : ∃ wo : World, wo = wr := ⟨_, rfl⟩
      go_wp2_with fail
     
      refine Calls.mono (HM0.out) ?_
      rintro e w4 ⟨R4, cr4, rfl, ho4, hb4⟩
      have hs4 := hb4.size
      try simp at hs4
      have HB4 := Lib.hid hb4
      clear hb4
      have Hho4 := Lib.hid ho4
      clear ho4
      have E2 := Lib.hid ((HB4.out.block _ hl2).trans X2.out)
      have E3 := Lib.hid ((HB4.out.block _ hl3).trans X3.out)
      have ET := Lib.hid (HOT.out.below HB4.out (Nat.le_refl _))
      have EL := Lib.hid (HOL.out.below HB4.out (Nat.le_refl _))
      have EB := Lib.hid (below_via HBW.out HB4.out HBW.out.size)
      have HTB := Lib.hid (fun p (hp : T = some p) => (HOT.out.block_ hp).2)
      have HLB := Lib.hid (fun p (hp : L = some p) => (HOL.out.block_ hp).2)
      have hs4 : wo.heap.size ≤ w4.heap.size := by omega
      clear x2 x3 xf2 xf3 X2 X3 HOT HOL HM0
      go_upto_region 6 with fail
      refine name_world ?_
      intro w5 hw5
      have F2 := Lib.hid (show w5.heap[w.heap.size]? = some (.cells #[.slice A n c] 24 (0, 0)) by rw [hw5]; exact (by repeat (first | (with_reducible assumption) | (with_reducible exact E2.out) | (exact heap_at _ _ (by simp; done)) | (with_reducible refine heap_old_is _ _ (by (first | omega | (simp; done) | (simp; omega))) ?_) | (with_reducible refine heap_far_is (by (first | omega | (simp; done) | (simp; omega))) ?_))))
      have F3 := Lib.hid (show w5.heap[w.heap.size + 1]? = some (.cells #[.bool on2, .int .i64 of2, .int .i64 ot2] rootT (0, 0)) by rw [hw5]; exact (by repeat (first | (with_reducible assumption) | (with_reducible exact E3.out) | (exact heap_at _ _ (by simp; done)) | (with_reducible refine heap_old_is _ _ (by (first | omega | (simp; done) | (simp; omega))) ?_) | (with_reducible refine heap_far_is (by (first | omega | (simp; done) | (simp; omega))) ?_))))
      have FH := Lib.hid (show w5.heap[w4.heap.size]? = some (.cells #[.int .i64 l0, .int .i64 l1, .bool l2, .bool l3, .bool l4, .bool l5, .bool l6, .int .i64 l7, .int .i64 l8] hitT (0, 0)) by rw [hw5]; exact (by repeat (first | (with_reducible assumption) | (exact heap_at _ _ (by simp; done)) | (with_reducible refine heap_old_is _ _ (by (first | omega | (simp; done) | (simp; omega))) ?_) | (with_reducible refine heap_far_is (by (first | omega | (simp; done) | (simp; omega))) ?_))))
      have FF := Lib.hid (show w5.heap[w4.heap.size + 1]? = some (.cells #[.int .i64 m0, .int .i64 m1, .int .i64 m2, .bool m3, .int .i64 m4] faultT (0, 0)) by rw [hw5]; exact (by repeat (first | (with_reducible assumption) | (exact heap_at _ _ (by simp; done)) | (with_reducible refine heap_old_is _ _ (by (first | omega | (simp; done) | (simp; omega))) ?_) | (with_reducible refine heap_far_is (by (first | omega | (simp; done) | (simp; omega))) ?_))))
      have FT := Lib.hid (show Own w5 (w.heap.size + 2) intT 1 intCells tabs T ct by rw [hw5]; exact (by repeat (first | (with_reducible exact Own.mono ET.out (by (first | omega | (simp; done) | (simp; omega)))) | (with_reducible refine Own.set_far ?_ (by (first | omega | (simp; done) | (simp; omega))) _) | (with_reducible refine Own.alloc ?_ _) | (with_reducible refine Own.drew ?_))))
      have FL := Lib.hid (show Own w5 (w.heap.size + 2) intT 1 intCells lets L cl by rw [hw5]; exact (by repeat (first | (with_reducible exact Own.mono EL.out (by (first | omega | (simp; done) | (simp; omega)))) | (with_reducible refine Own.set_far ?_ (by (first | omega | (simp; done) | (simp; omega))) _) | (with_reducible refine Own.alloc ?_ _) | (with_reducible refine Own.drew ?_))))
      have FM := Lib.hid (show Own w5 wo.heap.size intT 1 intCells rm R4 cr4 by rw [hw5]; exact (by repeat (first | (with_reducible exact Own.mono Hho4.out (by (first | omega | (simp; done) | (simp; omega)))) | (with_reducible refine Own.set_far ?_ (by (first | omega | (simp; done) | (simp; omega))) _) | (with_reducible refine Own.alloc ?_ _) | (with_reducible refine Own.drew ?_))))
      have HRB := Lib.hid (fun p (hp : R4 = some p) => (Hho4.out.block_ hp))
      have FB := Lib.hid (show Below w.heap.size w w5 by rw [hw5]; repeat' (first | (with_reducible exact Below.refl _ _) | (with_reducible (refine Below.setCell ?_ ?_ _)) | (with_reducible (refine Below.alloc ?_ ?_ _)) | (with_reducible (refine Below.drew ?_)) | (with_reducible (refine below_via ?_ EB.out ?_)) | omega | (simp; done) | (simp; omega)))
      have h5s : w4.heap.size + 2 ≤ w5.heap.size := by rw [hw5]; simp
      clear hw5 E2 E3 ET EL EB Hho4 HB4
     
      go_wp2_with fail
      go_loopg [6, 12] rm.length (fun gg v6 v12 wr => ∃ (k : Nat) (T2 : Option Addr) (ct2 : Nat) (tabs2 : List Int), k ≤ rm.length ∧ gg = rm.length - k ∧ v12 = .int .i64 k ∧ v6 = .slice T2 tabs2.length ct2 ∧ Own wr (w.heap.size + 2) intT 1 intCells tabs2 T2 ct2 ∧ tabs2.length ≤ tabs.length + k ∧
        (∀ x ∈ tabs, x ∈ tabs2) ∧ (∀ x ∈ rm.take k, x ∈ tabs2) ∧ Moved w5.heap.size T T2 ∧ KeepR T w5 wr ∧ Below (w.heap.size + 2) w5 wr)
      case atStart => exact ⟨0, T, ct, tabs, by omega, rfl, rfl, rfl, FT.out, Nat.le_refl _, fun x hx => hx, fun x hx => by simp at hx, fun q hq => .inr ⟨q, hq, rfl⟩, fun _ _ _ => rfl, Below.refl _ _⟩
      case round =>
        obtain ⟨k, T2, ct2, tabs2, hk, hgi, rfl, rfl, hot, htl2, hin1, hin2, hmv, hkr, hbi⟩ := hrel
        have HGI := Lib.hid hgi
        have GT := Lib.hid hot
        have HIN1 := Lib.hid hin1
        have HIN2 := Lib.hid hin2
        have HMV := Lib.hid hmv
        have HKR := Lib.hid hkr
        have HBI := Lib.hid hbi
        have hsi := hbi.size
        clear hgi hot hin1 hin2 hmv hkr hbi
        by_cases hkl : k < rm.length
        · have hki : (k : Int) < rm.length := by omega
          have HMO := Lib.hid (FM.out.keep2 (w' := wr) fun p hp => HKR.out _ (by have := (FM.out.block_ hp).2; omega) (fun q hq => by have h1 := HTB.out q hq; have h2 := (HRB.out p hp).1; omega))
          obtain ⟨bl, ol, hbe, hbl, hcl⟩ := at_cell (HMO.out.at_ int_len) (Below.refl _ _) hkl rfl
          subst hbe
          obtain ⟨x, hx⟩ : ∃ x, rm[k] = x := ⟨_, rfl⟩
          rw [hx] at hcl
          have HX := Lib.hid hx
          clear hx
          have HIX := Lib.hid (In_any x T2 ct2 tabs2 wr (by omega) (GT.out.at_ int_len))
          have hii := idx_in tabs2 x
          generalize idx (· == x) tabs2 = ix at *
         
          go_wp2_with fail
          refine Calls.mono HIX.out ?_
          rintro e w' ⟨rfl, hww⟩
          have hww2 := hww.symm
          subst hww2
          clear hww
          rcases hii with ⟨hneg, hnin⟩ | ⟨hpos, hxin⟩
          · have qn : decide (ix < 0) = true := by simpa using hneg
            obtain ⟨tabs3, htabs3⟩ : ∃ t, t = tabs2 ++ [x] := ⟨_, rfl⟩
            have HT3 := Lib.hid htabs3
            have htl3 : tabs3.length ≤ tabs.length + (k + 1) := by rw [htabs3, List.length_append]; simp; omega
            clear htabs3 hnin
           
            go_upto_region 8 with (at_builtin; refine wpList_two rfl (.tmp 38) (.tmp 43) _ rfl (w.heap.size + 2) intT j0 _ 1 8 Try.underlying25 HI0.out HZ0.out HZ1.out HZ2.out rfl (by omega) int_len int_ones tabs2 tabs3 x HT3.out T2 ct2 rfl (GT.out.alloc _) _ rfl (heap_new _ _) (by simp only [maxLen]; omega) (by omega) (by simp; omega) ?_; intro T3 ct3 w6 ho6 hb6 hk6 hn6; have HO6 := Lib.hid ho6; have HB6 := Lib.hid hb6; have HK6 := Lib.hid hk6; have HN6 := Lib.hid hn6; have hs6 := hb6.size; clear ho6 hk6 hb6 hn6; (try simp at hs6))
           
            have PM := Lib.hid (show Moved w5.heap.size T T3 from fun q hq => by
              rcases HN6.out q hq with h | ⟨p, hp, he⟩
              · left; rw [h]; simp; omega
              · rw [← he]; exact HMV.out p hp)
            have PK := Lib.hid (show KeepR T w5 w6 from fun b hb hne => by
              rw [← HKR.out b hb hne]
              refine (HK6.out b (by simp; omega) fun p hp => ?_).trans (heap_old _ _ (by omega))
              rcases HMV.out p hp with h | ⟨q, hq, he⟩
              · omega
              · rw [← he]; exact hne q hq)
            have PB := Lib.hid (show Below (w.heap.size + 2) w5 w6 from below_via (HBI.out.alloc (by omega) _) HB6.out (Nat.le_refl _))
            have PI1 := Lib.hid (show ∀ y ∈ tabs, y ∈ tabs3 from fun y hy => by rw [HT3.out]; exact List.mem_append_left _ (HIN1.out y hy))
            have PI2 := Lib.hid (show ∀ y ∈ rm.take (k + 1), y ∈ tabs3 from fun y hy => by
              rw [List.take_succ_eq_append_getElem hkl] at hy
              rw [HT3.out]
              rcases List.mem_append.1 hy with h | h
              · exact List.mem_append_left _ (HIN2.out y h)
              · rw [HX.out] at h
                exact List.mem_append_right _ h)
            clear HK6 HB6 HN6
            go_wp2_with fail
            go_roundg (rm.length - (k + 1))
            case rel => exact ⟨k + 1, T3, ct3, tabs3, by omega, rfl, by go_num, rfl, HO6.out, htl3, PI1.out, PI2.out, PM.out, PK.out, PB.out⟩
            case measure => have := HGI.out; omega
          · have qn : decide (ix < 0) = false := by simp; omega
            have PI2 := Lib.hid (show ∀ y ∈ rm.take (k + 1), y ∈ tabs2 from fun y hy => by
              rw [List.take_succ_eq_append_getElem hkl] at hy
              rcases List.mem_append.1 hy with h | h
              · exact HIN2.out y h
              · rw [HX.out] at h
                rw [List.mem_singleton.1 h]
                exact hxin)
            clear hxin
           
            go_wp2_with fail
            go_roundg (rm.length - (k + 1))
            case rel => exact ⟨k + 1, T2, ct2, tabs2, by omega, rfl, by go_num, rfl, GT.out, by omega, HIN1.out, PI2.out, HMV.out, HKR.out, HBI.out⟩
            case measure => have := HGI.out; omega
        · have hki : ¬ (k : Int) < rm.length := by omega
          have HI2 := Lib.hid (show ∀ y ∈ rm, y ∈ tabs2 from fun y hy => HIN2.out y (by rw [List.take_of_length_le (by omega)]; exact hy))
          have KH := Lib.hid ((HKR.out _ (heap_lt FH.out) (fun p hp => by have := HTB.out p hp; omega)).trans FH.out)
          have KF := Lib.hid ((HKR.out _ (heap_lt FF.out) (fun p hp => by have := HTB.out p hp; omega)).trans FF.out)
          have K2 := Lib.hid ((HBI.out.block _ (by omega)).trans F2.out)
          have K3 := Lib.hid ((HBI.out.block _ (by omega)).trans F3.out)
          have KL := Lib.hid (FL.out.keep2 (w' := wr) fun p hp => HKR.out _ (by have := (FL.out.block_ hp).2; omega) (fun q hq => HAP.out q p hq hp))
          have KB := Lib.hid (below_via FB.out HBI.out (by omega))
          have KA := Lib.hid (show Apart T2 L from fun p q hp hq => by
            have hqb := HLB.out q hq
            rcases HMV.out p hp with h | ⟨r, hr, he⟩
            · omega
            · rw [← he]; exact HAP.out r q hr hq)
          clear HIN2 HKR FH FF F2 F3 FL FB FM FT HMV HBI
          have y9 := fun j => cell_of_row _ _ j _ _ _ KH.out
          have y10 := fun j => cell_of_row _ _ j _ _ _ KF.out
          have yf9 := fun j => frozen_of_row _ _ j _ _ KH.out
          have yf10 := fun j => frozen_of_row _ _ j _ _ KF.out
          have hl9 := heap_lt KH.out
          have hl10 := heap_lt KF.out
          by_cases hm0 : m0 = 0
          · subst hm0
            have HIX := Lib.hid (In_any l0 L cl lets wr (by omega) (KL.out.at_ int_len))
            have hii := idx_in lets l0
            generalize idx (· == l0) lets = ix at *
           
            go_wp2_with fail
            refine Calls.mono HIX.out ?_
            rintro e w' ⟨rfl, hww⟩
            have hww2 := hww.symm
            subst hww2
            clear hww
            rcases hii with ⟨hneg, hnin⟩ | ⟨hpos, hxin⟩
            · have qn : decide (ix < 0) = true := by simpa using hneg
              obtain ⟨lets3, hlets3⟩ : ∃ t, t = lets ++ [l0] := ⟨_, rfl⟩
              have HT3 := Lib.hid hlets3
              have hll3 : lets3.length ≤ m + 1 := by rw [hlets3, List.length_append]; simp; omega
              clear hlets3 hnin
             
              go_upto_region 4 with (at_builtin; refine wpList_two rfl (.tmp 55) (.tmp 58) _ rfl (w.heap.size + 2) intT j0 _ 1 8 Try.underlying25 HI0.out HZ0.out HZ1.out HZ2.out rfl (by omega) int_len int_ones lets lets3 l0 HT3.out L cl rfl (KL.out.alloc _) _ rfl (heap_new _ _) (by simp only [maxLen]; omega) (by omega) (by simp; omega) ?_; intro L3 cl3 w6 ho6 hb6 hk6 hn6; have HO6 := Lib.hid ho6; have HB6 := Lib.hid hb6; have HK6 := Lib.hid hk6; have HN6 := Lib.hid hn6; have hs6 := hb6.size; clear ho6 hk6 hb6 hn6; (try simp at hs6))
             
              have PT := Lib.hid (GT.out.keep2 (w' := w6) fun p hp => (HK6.out _ (by have := (GT.out.block_ hp).2; simp; omega) (fun q hq => (KA.out p q hp hq).symm)).trans (heap_old _ _ (GT.out.block_ hp).2))
              have PA := Lib.hid (show Apart T2 L3 from fun p q hp hq => by
                rcases HN6.out q hq with h | ⟨r, hr, he⟩
                · have := (GT.out.block_ hp).2
                  simp at h
                  omega
                · rw [← he]; exact KA.out p r hp hr)
              have PB := Lib.hid (below_via (KB.out.alloc (by omega) _) HB6.out (by omega))
              have P2 := Lib.hid ((HB6.out.block _ (by omega)).trans ((heap_old _ _ (heap_lt K2.out)).trans K2.out))
              have P3 := Lib.hid ((HB6.out.block _ (by omega)).trans ((heap_old _ _ (heap_lt K3.out)).trans K3.out))
              have PH := Lib.hid (HHO.out.step HMR.out HIN1.out (fun y hy => by rw [HT3.out]; exact List.mem_append_left _ hy) HI2.out (fun _ => by rw [HT3.out]; exact List.mem_append_right _ (List.mem_singleton_self _)) : Holds2 ws ⟨on2, of2, ot2⟩ (m + 1) tabs2 lets3)
              clear HK6 HB6 HN6 y9 y10 yf9 yf10
              go_wp2_with fail
              go_roundg (4096 - (m + 1))
              case rel => exact ⟨m + 1, T2, ct2, tabs2, L3, cl3, lets3, by omega, rfl, by go_num, rfl, rfl, PT.out, HO6.out, PA.out, by omega, hll3, PH.out, P2.out, P3.out, PB.out⟩
              case measure => have := HGK.out; omega
            · have qn : decide (ix < 0) = false := by simp; omega
              have PH := Lib.hid (HHO.out.step HMR.out HIN1.out (fun y hy => hy) HI2.out (fun _ => hxin) : Holds2 ws ⟨on2, of2, ot2⟩ (m + 1) tabs2 lets)
              clear hxin
             
              go_wp2_with fail
              go_roundg (4096 - (m + 1))
              case rel => exact ⟨m + 1, T2, ct2, tabs2, L, cl, lets, by omega, rfl, by go_num, rfl, rfl, GT.out, KL.out, KA.out, by omega, by omega, PH.out, K2.out, K3.out, KB.out⟩
              case measure => have := HGK.out; omega
          · have qm : (m0 == 0) = false := by simpa using hm0
            have PH := Lib.hid (HHO.out.step HMR.out HIN1.out (fun y hy => hy) HI2.out (fun h => absurd h hm0) : Holds2 ws ⟨on2, of2, ot2⟩ (m + 1) tabs2 lets)
           
            go_wp2_with fail
            go_roundg (4096 - (m + 1))
            case rel => exact ⟨m + 1, T2, ct2, tabs2, L, cl, lets, by omega, rfl, by go_num, rfl, rfl, GT.out, KL.out, KA.out, by omega, by omega, PH.out, K2.out, K3.out, KB.out⟩
            case measure => have := HGK.out; omega
    · obtain rfl : m = 4096 := by omega
      have hmi : ¬ ((4096 : Nat) : Int) ≤ 4095 := by omega
     
      go_wp2_with fail
      refine bodyPost_ret (v := .tuple #[.slice T tabs.length ct, .slice L lets.length cl]) (by simp [results, Try.results34, go_sem, *]) rfl ⟨T, ct, tabs, L, cl, lets, rfl, HOT.out.mono (by omega), HOL.out.mono (by omega), by omega, by omega, HHO.out, HBW.out⟩

end Go.Proofs.Ytddbndmbcdeggaa
