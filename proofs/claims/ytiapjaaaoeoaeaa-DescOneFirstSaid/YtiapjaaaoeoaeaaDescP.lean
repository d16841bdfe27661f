/-
  'DescOfs' returns true, and of what was there nothing has turned. Conditions: the asks read as such.
-/
import Derived.Test.YtiapjaaaoeoaeaaDescO
namespace Go.Proofs.Ytiapjaaaoeoaeaa
open Go.RowKit

set_option maxRecDepth 100000 in
set_option maxHeartbeats 4000000 in
theorem descOfs_walk (s : Sl AskD) (w : World) (hs : AsksAt w s) :
    Calls Try.prog 4 #[.slice s.addr s.list.length s.cap] w fun e w' => e = .returned (.bool true) ∧ Below w.heap.size w w' := by
  obtain ⟨hn, hA, hok⟩ := hs
  obtain ⟨A, c, asks⟩ := s
  dsimp only at *
  have HA := Lib.hid hA
  have HQ := Lib.hid hok
  have HNU := Lib.hid (fun n W => dnum_any n W)
  clear hA hok
  go_enter Try.func4, Try.ntmps4
  go_wp2
  go_loopw [3] (fun i wr => ∃ k : Nat, k ≤ asks.length ∧ i = .int .i64 k ∧ Below w.heap.size w wr) (fun i _ => asks.length - (intOf i).toNat)
  case atStart => exact ⟨0, Nat.zero_le _, rfl, Below.refl _ _⟩
  case round =>
    obtain ⟨k, hk, rfl, hb⟩ := hrel
    have HB := Lib.hid hb
    by_cases hlt : k < asks.length ∧ k < 12
    · obtain ⟨hlt, h12⟩ := hlt
      have q12 : decide ((k : Int) < 12) = true := by simp; omega
      have hki : (k : Int) < asks.length := by omega
      have hki0 : (0 : Int) ≤ (k : Int) := by omega
      clear hb
      go_wp2
      go_loopw [4] (fun i wr => ∃ st : Int, 0 ≤ st ∧ st ≤ 4 ∧ i = .int .i64 st ∧ Below w.heap.size w wr) (fun i _ => (4 - intOf i).toNat)
      case atStart => exact ⟨0, by omega, by omega, rfl, HB.out⟩
      case round =>
        obtain ⟨st, hst0, hst1, rfl, hb1⟩ := hrel
        have HB1 := Lib.hid hb1
        clear hb1
        by_cases h3 : st ≤ 3
        · go_wp2
          go_loopw [5] (fun i wr => ∃ lv : Int, -1 ≤ lv ∧ lv ≤ 5 ∧ i = .int .i64 lv ∧ Below w.heap.size w wr) (fun i _ => (5 - intOf i).toNat)
          case atStart => exact ⟨-1, by omega, by omega, rfl, HB1.out⟩
          case round =>
            obtain ⟨lv, hl0, hl1, rfl, hb2⟩ := hrel
            have HB2 := Lib.hid hb2
            have hsw := hb2.size
            by_cases h4 : lv ≤ 4
            · obtain ⟨b, off, rfl, hbl, hc⟩ := askd_cells HA.out hb2 hlt
              have hqo := (HQ.out asks[k] (List.getElem_mem hlt)).2.2.2.2.2.2.2
              have c12 := hc 12 _ rfl
              clear hb2 hc
              generalize (asks[k]).x = qx at *
              cases hp : placeOk st lv
              · have HO := Lib.hid (fun W => of_no st lv qx hp W)
                have HP := Lib.hid (fun W => place_any st lv W)
                rw [hp] at HP
                unfold OfPost deV noDe at HO
                dsimp only [De.cells] at HO
                clear hp hqo
                go_wp2_with fail
                refine Calls.mono (HO.out _) ?_
                rintro e w3 ⟨rfl, hb3⟩
                have hs3 := hb3.size
                try simp at hs3
                have hc3_0 := fun o => (bcell hb3).1 (b) o (by first | omega | (simp; done) | (simp; omega))
                have hf3_0 := fun o => (bcell hb3).2.1 (b) o (by first | omega | (simp; done) | (simp; omega))
                have hz3_0 := (bcell hb3).2.2 (b) (by first | omega | (simp; done) | (simp; omega))
                have HB3 := Lib.hid hb3
                clear hb3
                go_wp2_with fail
                refine Calls.mono (HP.out _) ?_
                rintro e w' ⟨rfl, rfl⟩
                go_wp2_with (go_at_call 18; refine (HNU.out _ _).mono ?_; rintro e w' ⟨rfl, rfl⟩)
                go_roundw
                case rel => exact ⟨lv + 1, by omega, by omega, rfl, (by repeat' (first | (with_reducible exact Below.refl _ _) | (with_reducible (refine Below.setCell ?_ ?_ _)) | (with_reducible (refine Below.alloc ?_ ?_ _)) | (with_reducible (refine Below.drew ?_)) | (with_reducible (refine below_via ?_ HB3.out ?_)) | (with_reducible (refine below_via ?_ HB2.out ?_)) | omega | (simp; done) | (simp; omega)))⟩
                case measure => simp [intOf]; omega
              · have HO := Lib.hid (fun W => of_yes st lv qx hqo hp W)
                have HR := Lib.hid (fun W => rof_any st lv qx hqo hp W)
                have HP := Lib.hid (fun W => place_any st lv W)
                rw [hp] at HP
                generalize ofDe st lv qx = d at *
                obtain ⟨kind, frame, r, dw, dx, af, ng, soft, note⟩ := d
                unfold OfPost deV at HO
                unfold RofPost deV at HR
                dsimp only [De.cells] at HO HR
                clear hp hqo
                go_wp2_with fail
                refine Calls.mono (HO.out _) ?_
                rintro e w3 ⟨rfl, hb3⟩
                have hs3 := hb3.size
                try simp at hs3
                have hc3_0 := fun o => (bcell hb3).1 (b) o (by first | omega | (simp; done) | (simp; omega))
                have hf3_0 := fun o => (bcell hb3).2.1 (b) o (by first | omega | (simp; done) | (simp; omega))
                have hz3_0 := (bcell hb3).2.2 (b) (by first | omega | (simp; done) | (simp; omega))
                have HB3 := Lib.hid hb3
                clear hb3
                go_wp2_with fail
                refine Calls.mono (HP.out _) ?_
                rintro e w3 ⟨rfl, rfl⟩
                have hb3 : b < w3.heap.size := by omega
                go_wp2_with fail
                refine Calls.mono (HR.out _) ?_
                rintro e w4 ⟨rfl, hb4⟩
                have hs4 := hb4.size
                try simp at hs4
                have hc4_0 := fun o => (bcell hb4).1 (w3.heap.size) o (by first | omega | (simp; done) | (simp; omega))
                have hf4_0 := fun o => (bcell hb4).2.1 (w3.heap.size) o (by first | omega | (simp; done) | (simp; omega))
                have hz4_0 := (bcell hb4).2.2 (w3.heap.size) (by first | omega | (simp; done) | (simp; omega))
                have hc4_1 := fun o => (bcell hb4).1 (w3.heap.size + 1) o (by first | omega | (simp; done) | (simp; omega))
                have hf4_1 := fun o => (bcell hb4).2.1 (w3.heap.size + 1) o (by first | omega | (simp; done) | (simp; omega))
                have hz4_1 := (bcell hb4).2.2 (w3.heap.size + 1) (by first | omega | (simp; done) | (simp; omega))
                have HB4 := Lib.hid hb4
                clear hb4
                go_wp2_with (go_at_call 18; refine (HNU.out _ _).mono ?_; rintro e w' ⟨rfl, rfl⟩)
                go_roundw
                case rel => exact ⟨lv + 1, by omega, by omega, rfl, (by repeat' (first | (with_reducible exact Below.refl _ _) | (with_reducible (refine Below.setCell ?_ ?_ _)) | (with_reducible (refine Below.alloc ?_ ?_ _)) | (with_reducible (refine Below.drew ?_)) | (with_reducible (refine below_via ?_ HB4.out ?_)) | (with_reducible (refine below_via ?_ HB3.out ?_)) | (with_reducible (refine below_via ?_ HB2.out ?_)) | omega | (simp; done) | (simp; omega)))⟩
                case measure => simp [intOf]; omega
            · go_wp2
              go_roundw
              case rel => exact ⟨st + 1, by omega, by omega, rfl, HB2.out⟩
              case measure => simp [intOf]; omega
        · go_wp2
          go_roundw
          case rel => exact ⟨k + 1, by omega, by go_num, HB1.out⟩
          case measure => simp [intOf]; omega
    · have hno : ¬ (k < asks.length ∧ k < 12) := hlt
      by_cases h1 : k < asks.length
      · have h2 : ¬ k < 12 := fun h => hno ⟨h1, h⟩
        clear hno hlt
        go_wp2_with (go_at_call 26; refine (wakes_any _).mono ?_; rintro e w1 ⟨rfl, hb1⟩; have HB1 := Lib.hid hb1; clear hb1)
        go_ret
        exact ⟨rfl, below_call HB.out HB1.out HB.out.size⟩
      · clear hno hlt
        go_wp2_with (go_at_call 26; refine (wakes_any _).mono ?_; rintro e w1 ⟨rfl, hb1⟩; have HB1 := Lib.hid hb1; clear hb1)
        go_ret
        exact ⟨rfl, below_call HB.out HB1.out HB.out.size⟩

end Go.Proofs.Ytiapjaaaoeoaeaa
