/-
  'MemZeros' returns true, and of what was there nothing has turned. Conditions: the script reads as such.
-/
import Derived.Test.YtipepkmmjdlpoaaMemQ
namespace Go.Proofs.Ytipepkmmjdlpoaa
open Go.RowKit

theorem idx_yes_eq {l : List Int} {n : Int} {k : Nat} (h : (l.take k).any (· == n) = false) (hk : k < l.length) (hp : (l[k] == n) = true) : idx (· == n) l = k := idx_yes h hk hp

set_option maxHeartbeats 1000000 in
theorem In_any (n : Int) (L : Option Addr) (cl : Nat) (l : List Int) (w : World) (hl : l.length ≤ 140737488355328) (hL : At w L 1 intCells l) :
    Calls Try.prog 20 #[.slice L l.length cl, .int .i64 n] w fun e w' => e = .returned (.int .i64 (idx (· == n) l)) ∧ w' = w := by
  go_enter Try.func20, Try.ntmps20
  go_wp2
  go_loop [5] (fun i => ∃ k : Nat, k ≤ l.length ∧ i = .int .i64 k ∧ (l.take k).any (· == n) = false) (fun i => l.length - (intOf i).toNat)
  case atStart => exact ⟨0, Nat.zero_le _, rfl, rfl⟩
  case round =>
    obtain ⟨k, hk, rfl, ht⟩ := hrel
    have HT := Lib.hid ht
    clear ht
    by_cases hlt : k < l.length
    · obtain ⟨ba, oa, rfl, hba, hca⟩ := at_cell hL (Below.refl _ _) hlt rfl
      obtain ⟨x, hxk⟩ : ∃ x, l[k] = x := ⟨_, rfl⟩
      rw [hxk] at hca
      have HXK := Lib.hid hxk
      clear hxk
      have hki : (k : Int) < l.length := by omega
      cases hg : (x == n)
      · have HG := Lib.hid hg
        go_wp2
        go_round
        case rel => exact ⟨k + 1, by omega, by go_num, any_take_step HT.out hlt (by rw [HXK.out]; exact HG.out)⟩
        case measure => simp [intOf]; omega
      · have HG := Lib.hid hg
        go_wp2
        go_ret
        exact ⟨by rw [idx_yes HT.out hlt (by rw [HXK.out]; exact HG.out)]; rfl, rfl⟩
    · go_wp2
      go_ret
      exact ⟨by rw [idx_no HT.out (by omega)]; rfl, rfl⟩

theorem zeroed_get (l : List Int) : ∀ (ws : List Int) (i : Nat), (∀ x ∈ l, 0 ≤ x) → i < ws.length → (zeroed ws l)[i]? = if l.any (· == ((i / 8 : Nat) : Int)) then some 0 else ws[i]? := by
  induction l with
  | nil => intro ws i _ _; rfl
  | cons x l ih =>
    intro ws i hp hi
    show (zeroed (setAll ws (x.toNat * 8) (zeros 8)) l)[i]? = _
    rw [ih _ _ (fun y hy => hp y (List.mem_cons_of_mem _ hy)) (by rw [setAll_len]; exact hi), setAll_get, List.any_cons]
    have hx := hp x (List.mem_cons_self ..)
    cases h1 : l.any (· == ((i / 8 : Nat) : Int))
    · simp only [Bool.or_false, Bool.false_eq_true, if_false]
      by_cases h2 : x = ((i / 8 : Nat) : Int)
      · have h3 : x.toNat * 8 ≤ i ∧ i < x.toNat * 8 + (zeros 8).length ∧ i < ws.length := by simp [zeros]; omega
        rw [if_pos h3, if_pos (beq_iff_eq.2 h2)]
        have : i - x.toNat * 8 < 8 := by omega
        rw [List.getElem?_eq_getElem (by simp [zeros]; omega)]
        exact congrArg some (List.eq_of_mem_replicate (List.getElem_mem _))
      · have h3 : ¬ (x.toNat * 8 ≤ i ∧ i < x.toNat * 8 + (zeros 8).length ∧ i < ws.length) := by simp [zeros]; omega
        rw [if_neg h3, if_neg (fun h => h2 (beq_iff_eq.1 h))]
    · simp

theorem mnum_w (n : Int) (w : World) : Calls Try.prog 11 #[.int .i64 n] w fun e w' => e = .returned (.int .i64 n) ∧ w = w' := (mnum_any n w).mono fun _ _ ⟨a, b⟩ => ⟨a, b.symm⟩
theorem In_w (n : Int) (L : Option Addr) (cl : Nat) (l : List Int) (w : World) (hl : l.length ≤ 140737488355328) (hL : At w L 1 intCells l) :
    Calls Try.prog 20 #[.slice L l.length cl, .int .i64 n] w fun e w' => e = .returned (.int .i64 (idx (· == n) l)) ∧ w = w' := (In_any n L cl l w hl hL).mono fun _ _ ⟨a, b⟩ => ⟨a, b.symm⟩

theorem script_words {w : World} {s : Script} (h : ScriptAt w s) : ∀ x ∈ s.ws, 0 ≤ x ∧ x ≤ 18446744073709551615 := h.mok

set_option maxRecDepth 100000 in
set_option maxHeartbeats 4000000 in
theorem memZeros_walk (s : Script) (w : World) (hs : ScriptAt w s) :
    Calls Try.prog 4 #[.agg s.cells.toArray] w fun e w' => e = .returned (.bool true) ∧ Below w.heap.size w w' := by
  have HHV := Lib.hid (fun W (hb : Below w.heap.size w W) => heavy_any s W ⟨hs.mcap, hs.mlen, hs.mat.below hb, hs.mok, hs.llen, hs.lat.below hb, fun a ha => by
    obtain ⟨h1, h2, h3, h4, h5, h6, h7⟩ := hs.lok a ha
    exact ⟨h1, h2, h3, h4, h5, h6.below hb, h7⟩⟩)
  obtain ⟨hcap, hml, hmat, hmok, hll, hlat, hlok⟩ := hs
  obtain ⟨ma, mc, ws, la, lc, acts⟩ := s
  simp only [Script.cells] at *
  have HRM := Lib.hid (fun W => refMem_any ma ws.length mc W (by omega))
  have HMA := Lib.hid hmat
  have HLA := Lib.hid hlat
  have HLO := Lib.hid hlok
  have HWA := Lib.hid (fun W => wakes_any W)
  have HWI := Lib.hid (fun W => within_any 3 2 W (by decide) (by decide) (by decide))
  rw [show withinOf 3 2 = 1 by decide +kernel] at HWI
  have HNU := Lib.hid (fun (n : Int) W => mnum_w n W)
  clear hcap hmat hmok hlat hlok
  go_enter Try.func4, Try.ntmps4
  go_wp2_with fail
  refine (HHV.out _ (by repeat' (first | (with_reducible exact Below.refl _ _) | (with_reducible (refine Below.setCell ?_ ?_ _)) | (with_reducible (refine Below.alloc ?_ ?_ _)) | (with_reducible (refine Below.drew ?_)) | omega | (simp; done) | (simp; omega)))).mono ?_
  rintro e w1 ⟨b, hlight, rfl, hb1⟩
  have hs1 := hb1.size
  simp at hs1
  have hc1 := fun o => (bcell hb1).1 w.heap.size o (by simp)
  have hf1 := fun o => (bcell hb1).2.1 w.heap.size o (by simp)
  have hz1 : w.heap.size < w1.heap.size := by omega
  have HB1 := Lib.hid hb1
  have HLIGHT := Lib.hid hlight
  clear hb1 hlight HHV
  cases b
  case true =>
    go_wp2
    go_ret
    exact ⟨rfl, (by repeat' (first | (with_reducible exact Below.refl _ _) | (with_reducible (refine Below.setCell ?_ ?_ _)) | (with_reducible (refine Below.alloc ?_ ?_ _)) | (with_reducible (refine Below.drew ?_)) | (with_reducible (refine below_via ?_ HB1.out ?_)) | omega | (simp; done) | (simp; omega)))⟩
  case false =>
    obtain ⟨hl1, hl2, hl3⟩ := HLIGHT.out rfl
    dsimp only at hl1 hl2 hl3
    have HL3 := Lib.hid hl3
    clear HLIGHT hl3
    cases hg : memOk ws.length
    · have HG := Lib.hid hg
      clear hg
      go_wp2_with fail
      refine Calls.mono (HRM.out _) ?_
      rintro e w2 ⟨rfl, hb2⟩
      have hs2 := hb2.size
      try simp at hs2
      have HB2 := Lib.hid hb2
      clear hb2
      rw [HG.out]
      go_wp2
      go_ret
      exact ⟨rfl, (by repeat' (first | (with_reducible exact Below.refl _ _) | (with_reducible (refine Below.setCell ?_ ?_ _)) | (with_reducible (refine Below.alloc ?_ ?_ _)) | (with_reducible (refine Below.drew ?_)) | (with_reducible (refine below_via ?_ HB2.out ?_)) | (with_reducible (refine below_via ?_ HB1.out ?_)) | omega | (simp; done) | (simp; omega)))⟩
    · have HG := Lib.hid hg
      clear hg
      go_wp2_with fail
      refine Calls.mono (HRM.out _) ?_
      rintro e w2 ⟨rfl, hb2⟩
      have hs2 := hb2.size
      try simp at hs2
      have HB2 := Lib.hid hb2
      clear hb2
      rw [HG.out]
      go_wp2_with fail
      have HB := Lib.hid ((by repeat' (first | (with_reducible exact Below.refl _ _) | (with_reducible (refine Below.setCell ?_ ?_ _)) | (with_reducible (refine Below.alloc ?_ ?_ _)) | (with_reducible (refine Below.drew ?_)) | (with_reducible (refine below_via ?_ HB2.out ?_)) | (with_reducible (refine below_via ?_ HB1.out ?_)) | omega | (simp; done) | (simp; omega))) : Below w.heap.size w w2)
      have HX := Lib.hid (show w2.heap[w.heap.size]? = some (.cells #[.slice ma ws.length mc, .slice la acts.length lc] 27 (0, 0)) from (by repeat (first | (with_reducible assumption) | (with_reducible refine heap_below_is HB2.out (by (first | omega | (simp; done) | (simp; omega))) ?_) | (with_reducible refine heap_below_is HB1.out (by (first | omega | (simp; done) | (simp; omega))) ?_) | (exact heap_at _ _ (by simp; done)) | (with_reducible refine heap_old_is _ _ (by (first | omega | (simp; done) | (simp; omega))) ?_) | (with_reducible refine heap_far_is (by (first | omega | (simp; done) | (simp; omega))) ?_))))
      have hx2 := heap_lt HX.out
      clear hc1 hf1 hz1
      go_loopw [3] (fun i wr => ∃ k : Nat, k ≤ acts.length ∧ k ≤ 15 ∧ i = .int .i64 k ∧ Below w2.heap.size w2 wr) (fun i _ => 15 - (intOf i).toNat)
      case atStart => exact ⟨0, Nat.zero_le _, Nat.zero_le _, rfl, Below.refl _ _⟩
      case round =>
        obtain ⟨k, hk, hk15, rfl, hbw⟩ := hrel
        have hxr := (hbw.block _ hx2).trans HX.out
        have e0 := cell_of_row _ _ 0 _ _ _ hxr
        have e1 := cell_of_row _ _ 1 _ _ _ hxr
        have ef := fun j => frozen_of_row _ _ j _ _ hxr
        have hxl := heap_lt hxr
        have HXR := Lib.hid hxr
        have HBW := Lib.hid hbw
        have hsw := hbw.size
        clear hbw hxr
        by_cases hlt : k < acts.length ∧ k < 15
        · obtain ⟨hlt, hlt15⟩ := hlt
          have HBR := Lib.hid ((by repeat' (first | (with_reducible exact Below.refl _ _) | (with_reducible (refine Below.setCell ?_ ?_ _)) | (with_reducible (refine Below.alloc ?_ ?_ _)) | (with_reducible (refine Below.drew ?_)) | (with_reducible (refine below_via ?_ HBW.out ?_)) | (with_reducible (refine below_via ?_ HB.out ?_)) | omega | (simp; done) | (simp; omega))) : Below w.heap.size w wr)
          have hwr := HBR.out.size
          obtain ⟨ba, oa, rfl, hba, c0, c1, c2, c3, c4⟩ := act_cells HLA.out HBR.out hlt
          have HAA := Lib.hid (HLO.out acts[k] (List.getElem_mem hlt))
          have hl30 := HL3.out acts[k] (List.getElem_mem hlt)
          have hki : (k : Int) < acts.length := by omega
          have hk15i : (k : Int) < 15 := by omega
          have q15 : decide ((k : Int) < 15) = true := by simp; omega
          generalize acts[k] = a at *
          obtain ⟨a0, a1, a2, a3, lad, lcap, l⟩ := a
          dsimp only at c0 c1 c2 c3 c4 hl30
          have HLL := Lib.hid (show At wr lad 1 intCells l from HAA.out.2.2.2.2.2.1.below HBR.out)
          clear c0 c1 c2 c3
          by_cases h50 : 50 < l.length
          · have q50 : (50 : Int) < l.length := by omega
            go_wp2
            go_ret
            exact ⟨rfl, HBR.out⟩
          · have q50 : ¬ (50 : Int) < l.length := by omega
            have HTH := Lib.hid (fun W (hb : Below wr.heap.size wr W) => there_any ma lad mc lcap ws.length l W (by omega) (by omega) (HLL.out.below hb))
            cases ht : thereB ((ws.length : Int) / 8) l
            · have HT := Lib.hid ht
              have HZ := Lib.hid (fun W (hb : Below wr.heap.size wr W) => Zero_no ma lad mc lcap ws.length l W (by omega) (by omega) (HLL.out.below hb) (by rw [askOf, HG.out, if_pos rfl, ht]; decide))
              rw [show askOf ws.length l = 2 by rw [askOf, HG.out, if_pos rfl, ht]; rfl] at HZ
              rw [ht] at HTH
              clear ht
              go_wp2_with fail
              refine Calls.mono (HZ.out _ (by repeat' (first | (with_reducible exact Below.refl _ _) | (with_reducible (refine Below.setCell ?_ ?_ _)) | (with_reducible (refine Below.alloc ?_ ?_ _)) | (with_reducible (refine Below.drew ?_)) | omega | (simp; done) | (simp; omega)))) ?_
              rintro e w3 ⟨rfl, hb3⟩
              have hs3 := hb3.size
              try simp at hs3
              have hc3_0 := fun o => (bcell hb3).1 (w.heap.size) o (by first | omega | (simp; done) | (simp; omega))
              have hf3_0 := fun o => (bcell hb3).2.1 (w.heap.size) o (by first | omega | (simp; done) | (simp; omega))
              have hz3_0 := (bcell hb3).2.2 (w.heap.size) (by first | omega | (simp; done) | (simp; omega))
              have HB3 := Lib.hid hb3
              clear hb3
              go_wp2_with fail
              refine Calls.mono (HTH.out _ (by repeat' (first | (with_reducible exact Below.refl _ _) | (with_reducible (refine Below.setCell ?_ ?_ _)) | (with_reducible (refine Below.alloc ?_ ?_ _)) | (with_reducible (refine Below.drew ?_)) | (with_reducible (refine below_via ?_ HB3.out ?_)) | omega | (simp; done) | (simp; omega)))) ?_
              rintro e w4 ⟨rfl, hb4⟩
              have hs4 := hb4.size
              try simp at hs4
              have hc4_0 := fun o => (bcell hb4).1 (w3.heap.size) o (by first | omega | (simp; done) | (simp; omega))
              have hf4_0 := fun o => (bcell hb4).2.1 (w3.heap.size) o (by first | omega | (simp; done) | (simp; omega))
              have hz4_0 := (bcell hb4).2.2 (w3.heap.size) (by first | omega | (simp; done) | (simp; omega))
              have HB4 := Lib.hid hb4
              clear hb4
              go_wp2_with (go_at_call 11; refine (HNU.out _ _).mono ?_; rintro e w' ⟨rfl, rfl⟩)
              go_roundw
              case rel => exact ⟨k + 1, by omega, by omega, by go_num, (by repeat' (first | (with_reducible exact Below.refl _ _) | (with_reducible (refine Below.setCell ?_ ?_ _)) | (with_reducible (refine Below.alloc ?_ ?_ _)) | (with_reducible (refine Below.drew ?_)) | (with_reducible (refine below_via ?_ HB4.out ?_)) | (with_reducible (refine below_via ?_ HB3.out ?_)) | (with_reducible (refine below_via ?_ HBW.out ?_)) | omega | (simp; done) | (simp; omega)))⟩
              case measure => simp [intOf]; omega
            · have HT := Lib.hid ht
              have HZ := Lib.hid (fun W (hb : Below wr.heap.size wr W) => Zero_yes ma lad mc lcap ws l W (by have := (memOk_spec _).1 HG.out; omega) (by have := (memOk_spec _).1 HG.out; omega) (by omega) ((HMA.out.below HBR.out).below hb) (HLL.out.below hb) (by rw [askOf, HG.out, if_pos rfl, ht]; rfl) ht)
              rw [ht] at HTH
              clear ht
              go_wp2_with fail
              refine Calls.mono (HZ.out _ (by repeat' (first | (with_reducible exact Below.refl _ _) | (with_reducible (refine Below.setCell ?_ ?_ _)) | (with_reducible (refine Below.alloc ?_ ?_ _)) | (with_reducible (refine Below.drew ?_)) | omega | (simp; done) | (simp; omega)))) ?_
              rintro e w3 ⟨Az, cz, rfl, hown, hb3⟩
              have hs3 := hb3.size
              try simp at hs3
              have hc3_0 := fun o => (bcell hb3).1 (w.heap.size) o (by first | omega | (simp; done) | (simp; omega))
              have hf3_0 := fun o => (bcell hb3).2.1 (w.heap.size) o (by first | omega | (simp; done) | (simp; omega))
              have hz3_0 := (bcell hb3).2.2 (w.heap.size) (by first | omega | (simp; done) | (simp; omega))
              have HB3 := Lib.hid hb3
              clear hb3
              have Hhown := Lib.hid hown
              clear hown
              go_wp2_with fail
              refine Calls.mono (HTH.out _ (by repeat' (first | (with_reducible exact Below.refl _ _) | (with_reducible (refine Below.setCell ?_ ?_ _)) | (with_reducible (refine Below.alloc ?_ ?_ _)) | (with_reducible (refine Below.drew ?_)) | (with_reducible (refine below_via ?_ HB3.out ?_)) | omega | (simp; done) | (simp; omega)))) ?_
              rintro e w4 ⟨rfl, hb4⟩
              have hs4 := hb4.size
              try simp at hs4
              have hc4_0 := fun o => (bcell hb4).1 (w.heap.size) o (by first | omega | (simp; done) | (simp; omega))
              have hf4_0 := fun o => (bcell hb4).2.1 (w.heap.size) o (by first | omega | (simp; done) | (simp; omega))
              have hz4_0 := (bcell hb4).2.2 (w.heap.size) (by first | omega | (simp; done) | (simp; omega))
              have hc4_1 := fun o => (bcell hb4).1 (w3.heap.size) o (by first | omega | (simp; done) | (simp; omega))
              have hf4_1 := fun o => (bcell hb4).2.1 (w3.heap.size) o (by first | omega | (simp; done) | (simp; omega))
              have hz4_1 := (bcell hb4).2.2 (w3.heap.size) (by first | omega | (simp; done) | (simp; omega))
              have HB4 := Lib.hid hb4
              clear hb4
              go_wp2_with (go_at_call 11; refine (HNU.out _ _).mono ?_; rintro e w' ⟨rfl, rfl⟩)
              have HB4' := Lib.hid ((by repeat' (first | (with_reducible exact Below.refl _ _) | (with_reducible (refine Below.setCell ?_ ?_ _)) | (with_reducible (refine Below.alloc ?_ ?_ _)) | (with_reducible (refine Below.drew ?_)) | (with_reducible (refine below_via ?_ HB4.out ?_)) | (with_reducible (refine below_via ?_ HB3.out ?_)) | omega | (simp; done) | (simp; omega))) : Below wr.heap.size wr w4)
              have HOZ := Lib.hid (((Hhown.out.alloc (.cells #[.slice Az ws.length cz] 24)).below HB4.out (by simp)).at_ word_len)
              have HXZ := Lib.hid (show w4.heap[w3.heap.size]? = some (.cells #[.slice Az ws.length cz] 24 (0, 0)) from (by repeat (first | (with_reducible assumption) | (with_reducible refine heap_below_is HB4.out (by (first | omega | (simp; done) | (simp; omega))) ?_) | (exact heap_at _ _ (by simp; done)) | (with_reducible refine heap_old_is _ _ (by (first | omega | (simp; done) | (simp; omega))) ?_) | (with_reducible refine heap_far_is (by (first | omega | (simp; done) | (simp; omega))) ?_))))
              have HMZ := Lib.hid ((HMA.out.below HBR.out).below HB4'.out)
              have HLZ := Lib.hid (HLL.out.below HB4'.out)
              have HXS := Lib.hid (show w4.heap[w.heap.size]? = some (.cells #[.slice ma ws.length mc, .slice (some ⟨ba, oa, none⟩) acts.length lc] 27 (0, 0)) from heap_below_is HB4'.out hxl HXR.out)
              clear hc3_0 hf3_0 hz3_0 hc4_0 hc4_1 hf4_0 hf4_1 hz4_0 hz4_1 e0 e1 ef
              have s0 := cell_of_row _ _ 0 _ _ _ HXS.out
              have sf := fun j => frozen_of_row _ _ j _ _ HXS.out
              have z0 := cell_of_row _ _ 0 _ _ _ HXZ.out
              have zf := fun j => frozen_of_row _ _ j _ _ HXZ.out
              go_loop [7] (fun j => ∃ m : Nat, m ≤ ws.length ∧ j = .int .i64 m) (fun j => ws.length - (intOf j).toNat)
              case atStart => exact ⟨0, Nat.zero_le _, rfl⟩
              case round =>
                obtain ⟨m, hm, rfl⟩ := hrel
                by_cases hmlt : m < ws.length
                · have hmz : m < (zeroed ws l).length := by rw [zeroed_len]; exact hmlt
                  obtain ⟨bm, om, rfl, hbm, hcm⟩ := at_cell HMZ.out (Below.refl _ _) hmlt rfl
                  obtain ⟨bz, oz, rfl, hbz, hcz⟩ := at_cell HOZ.out (Below.refl _ _) hmz rfl
                  have HEQ := Lib.hid (show (zeroed ws l)[m] = if l.any (· == ((m / 8 : Nat) : Int)) then 0 else ws[m] by
                    have h1 := zeroed_get l ws m (fun x hx => (numB_yes (List.all_eq_true.1 HT.out x hx)).1) hmlt
                    rw [List.getElem?_eq_getElem hmz, List.getElem?_eq_getElem hmlt] at h1
                    split at h1
                    · rename_i h2; rw [if_pos h2]; exact Option.some.inj h1
                    · rename_i h2; rw [if_neg h2]; exact Option.some.inj h1)
                  have HIX := Lib.hid (idx_ge (· == ((m / 8 : Nat) : Int)) l)
                  have HIN := Lib.hid (fun W (hb : Below w4.heap.size w4 W) => In_w ((m / 8 : Nat) : Int) lad lcap l W (by omega) (HLZ.out.below hb))
                  rw [show ((m / 8 : Nat) : Int) = (m : Int) / 8 by omega] at HIN HEQ HIX
                  generalize idx (· == ((m : Int) / 8)) l = ix at *
                  generalize l.any (· == ((m : Int) / 8)) = an at *
                  generalize (zeroed ws l)[m] = z at *
                  generalize ws[m] = x at *
                  have hmi : (m : Int) < ws.length := by omega
                  cases an
                  · have hix : ix < 0 := by have := HIX.out; simp at this; omega
                    have hzx : (z != x) = false := by rw [HEQ.out]; simp
                    go_wp2_with (go_at_call 20; refine (HIN.out _ (Below.refl _ _)).mono ?_; rintro e w' ⟨rfl, rfl⟩)
                    go_round
                    case rel => exact ⟨m + 1, by omega, by go_num⟩
                    case measure => simp [intOf]; omega
                  · have hix : 0 ≤ ix := by have := HIX.out; simpa using this
                    have hzx : (z != 0) = false := by rw [HEQ.out]; simp
                    go_wp2_with (go_at_call 20; refine (HIN.out _ (Below.refl _ _)).mono ?_; rintro e w' ⟨rfl, rfl⟩)
                    go_round
                    case rel => exact ⟨m + 1, by omega, by go_num⟩
                    case measure => simp [intOf]; omega
                · go_wp2
                  go_roundw
                  case rel => exact ⟨k + 1, by omega, by omega, by go_num, (by repeat' (first | (with_reducible exact Below.refl _ _) | (with_reducible (refine Below.setCell ?_ ?_ _)) | (with_reducible (refine Below.alloc ?_ ?_ _)) | (with_reducible (refine Below.drew ?_)) | (with_reducible (refine below_via ?_ HB4'.out ?_)) | (with_reducible (refine below_via ?_ HBW.out ?_)) | omega | (simp; done) | (simp; omega)))⟩
                  case measure => simp [intOf]; omega
        · by_cases hka : k < acts.length
          · obtain rfl : k = 15 := by omega
            have hki : (15 : Int) < acts.length := by omega
            go_wp2_with (first | (go_at_call 12; refine (HWI.out _).mono ?_; rintro e w' ⟨rfl, rfl⟩) | (go_at_call 15; refine (HWA.out _).mono ?_; rintro e w5 ⟨rfl, hb5⟩; have hs5 := hb5.size; (try simp at hs5); have HB5 := Lib.hid hb5; clear hb5))
            go_ret
            exact ⟨rfl, (by repeat' (first | (with_reducible exact Below.refl _ _) | (with_reducible (refine Below.setCell ?_ ?_ _)) | (with_reducible (refine Below.alloc ?_ ?_ _)) | (with_reducible (refine Below.drew ?_)) | (with_reducible (refine below_via ?_ HB5.out ?_)) | (with_reducible (refine below_via ?_ HBW.out ?_)) | (with_reducible (refine below_via ?_ HB.out ?_)) | omega | (simp; done) | (simp; omega)))⟩
          · have hki : ¬ (k : Int) < acts.length := by omega
            go_wp2_with (first | (go_at_call 12; refine (HWI.out _).mono ?_; rintro e w' ⟨rfl, rfl⟩) | (go_at_call 15; refine (HWA.out _).mono ?_; rintro e w5 ⟨rfl, hb5⟩; have hs5 := hb5.size; (try simp at hs5); have HB5 := Lib.hid hb5; clear hb5))
            go_ret
            exact ⟨rfl, (by repeat' (first | (with_reducible exact Below.refl _ _) | (with_reducible (refine Below.setCell ?_ ?_ _)) | (with_reducible (refine Below.alloc ?_ ?_ _)) | (with_reducible (refine Below.drew ?_)) | (with_reducible (refine below_via ?_ HB5.out ?_)) | (with_reducible (refine below_via ?_ HBW.out ?_)) | (with_reducible (refine below_via ?_ HB.out ?_)) | omega | (simp; done) | (simp; omega)))⟩

end Go.Proofs.Ytipepkmmjdlpoaa
