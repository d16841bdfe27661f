/-
  'DescWords' returns true, and of what was there nothing has turned. Conditions: the asks read as such.
-/
import Derived.Test.YtiapjaaaoeoaeaaDescN
namespace Go.Proofs.Ytiapjaaaoeoaeaa
open Go.RowKit

def askT : TypeId := 29
def AskD.row (q : AskD) : Array Value := q.cells.toArray

/-- What an ask's box reads as. -/
theorem ask_box {w : World} {g : Nat} {q : AskD} (h : w.heap[g]? = some (.cells q.row askT (0, 0))) (j : Nat) : w.cell? ⟨g, j, none⟩ = q.cells[j]? := by
  rw [cell_of_row _ _ j _ _ _ h]
  simp [AskD.row]

theorem word_no {stage level : Int} {d : De} (h : checkDe stage level d = false) (W : World) :
    Calls Try.prog 14 #[.int .i64 stage, .int .i64 level, .agg d.cells.toArray] W fun e w' => e = .returned (.tuple #[.int .u64 0, .int .i64 1]) ∧ Below W.heap.size W w' := by
  have := word_any stage level d W
  rw [h] at this
  exact this
theorem word_yes {stage level : Int} {d : De} (h : checkDe stage level d = true) (W : World) :
    Calls Try.prog 14 #[.int .i64 stage, .int .i64 level, .agg d.cells.toArray] W fun e w' => e = .returned (.tuple #[.int .u64 (wordDe stage level d), .int .i64 0]) ∧ Below W.heap.size W w' := by
  have := word_any stage level d W
  rw [h] at this
  exact this
theorem check_is {stage level : Int} {d : De} {c : Bool} {n : Int} (h : checkDe stage level d = c) (hn : (if c then (0 : Int) else 1) = n) (W : World) :
    Calls Try.prog 19 #[.int .i64 stage, .int .i64 level, .agg d.cells.toArray] W fun e w' => e = .returned (.int .i64 n) ∧ Below W.heap.size W w' := by
  have := check_any stage level d W
  rw [h, hn] at this
  exact this

theorem covers_is {level : Int} {c : Bool} {m n : Int} (h : numOk level 3 = c) (hm : (if c then coversOf level else 0) = m) (hn : (if c then (0 : Int) else 1) = n) (W : World) :
    Calls Try.prog 20 #[.int .i64 level] W fun e w' => e = .returned (.tuple #[.int .i64 m, .int .i64 n]) ∧ Below W.heap.size W w' := by
  have := covers_any level W
  rw [h, hm, hn] at this
  exact this
theorem index_is {level page : Int} {c : Bool} {m n : Int} (h : idxOk level page = c) (hm : (if c then idxOf level page else 0) = m) (hn : (if c then (0 : Int) else 1) = n) (W : World) :
    Calls Try.prog 21 #[.int .i64 level, .int .i64 page] W fun e w' => e = .returned (.tuple #[.int .i64 m, .int .i64 n]) ∧ Below W.heap.size W w' := by
  have := index_any level page W
  rw [h, hm, hn] at this
  exact this

set_option maxRecDepth 100000 in
set_option maxHeartbeats 4000000 in
theorem descWords_walk (s : Sl AskD) (w : World) (hs : AsksAt w s) :
    Calls Try.prog 3 #[.slice s.addr s.list.length s.cap] w fun e w' => e = .returned (.bool true) ∧ Below w.heap.size w w' := by
  obtain ⟨hn, hA, hok⟩ := hs
  obtain ⟨A, c, asks⟩ := s
  dsimp only at *
  have HA := Lib.hid hA
  have HQ := Lib.hid hok
  have HNU := Lib.hid (fun n W => dnum_any n W)
  clear hA hok
  go_enter Try.func3, Try.ntmps3
  go_wp2
  go_loopw [3] (fun i wr => ∃ k : Nat, k ≤ asks.length ∧ i = .int .i64 k ∧ Below w.heap.size w wr) (fun i _ => asks.length - (intOf i).toNat)
  case atStart => exact ⟨0, Nat.zero_le _, rfl, Below.refl _ _⟩
  case round =>
    obtain ⟨k, hk, rfl, hb⟩ := hrel
    have HB := Lib.hid hb
    by_cases hlt : k < asks.length ∧ k < 12
    · obtain ⟨hlt, h12⟩ := hlt
      have q12 : decide ((k : Int) < 12) = true := by simp; omega
      obtain ⟨b, off, rfl, hbl, hc⟩ := askd_cells HA.out hb hlt
      have hqo := HQ.out asks[k] (List.getElem_mem hlt)
      clear hb
      generalize asks[k] = q at *
      have c0 := hc 0 _ rfl
      have c1 := hc 1 _ rfl
      have c2 := hc 2 _ rfl
      have c3 := hc 3 _ rfl
      have c4 := hc 4 _ rfl
      have c5 := hc 5 _ rfl
      have c6 := hc 6 _ rfl
      have c7 := hc 7 _ rfl
      have c8 := hc 8 _ rfl
      have c9 := hc 9 _ rfl
      have c10 := hc 10 _ rfl
      have c11 := hc 11 _ rfl
      have c12 := hc 12 _ rfl
      simp only [Nat.add_zero] at c0
      obtain ⟨qs, qe, qp, d, qx⟩ := q
      obtain ⟨kind, frame, r, dw, dx, af, ng, soft, note⟩ := d
      clear hc
      dsimp only at c0 c1 c2 c3 c4 c5 c6 c7 c8 c9 c10 c11 c12
      go_wp2
      clear c0 c1 c2 c3 c4 c5 c6 c7 c8 c9 c10 c11 c12
      obtain ⟨wo, rfl⟩ : ∃ wo : World, wo = wr := ⟨_, rfl⟩
      go_loopw [5] (fun i wr => ∃ st : Int, 0 ≤ st ∧ st ≤ 4 ∧ i = .int .i64 st ∧ Below w.heap.size w wr ∧ wo.heap.size < wr.heap.size ∧ wr.heap[wo.heap.size]? = some (.cells #[.int .i64 qs, .int .i64 qe, .int .i64 qp, .int .i64 kind, .int .i64 frame, .bool r, .bool dw, .bool dx, .bool af, .bool ng, .int .i64 soft, .int .i64 note, .int .u64 qx] askT (0, 0))) (fun i _ => (4 - intOf i).toNat)
      case atStart => exact ⟨0, by omega, by omega, rfl, HB.out.alloc HB.out.size _, by simp, heap_new _ _⟩
      case round =>
        obtain ⟨st, hst0, hst1, rfl, hb1, hs1, hx1⟩ := hrel
        have HB1 := Lib.hid hb1
        have HX1 := Lib.hid hx1
        clear hb1 hx1
        by_cases h3 : st ≤ 3
        · go_wp2
          go_loopw [6] (fun i wr => ∃ lv : Int, -1 ≤ lv ∧ lv ≤ 5 ∧ i = .int .i64 lv ∧ Below w.heap.size w wr ∧ wo.heap.size < wr.heap.size ∧ wr.heap[wo.heap.size]? = some (.cells #[.int .i64 qs, .int .i64 qe, .int .i64 qp, .int .i64 kind, .int .i64 frame, .bool r, .bool dw, .bool dx, .bool af, .bool ng, .int .i64 soft, .int .i64 note, .int .u64 qx] askT (0, 0))) (fun i _ => (5 - intOf i).toNat)
          case atStart => exact ⟨-1, by omega, by omega, rfl, HB1.out, hs1, HX1.out⟩
          case round =>
            obtain ⟨lv, hl0, hl1, rfl, hb2, hs2, hx2⟩ := hrel
            have HB2 := Lib.hid hb2
            have HX2 := Lib.hid hx2
            have hsw := hb2.size
            by_cases h4 : lv ≤ 4
            · have cq := fun j => cell_of_row _ _ j _ _ _ hx2
              clear hb2 hx2
              cases hp : placeOk st lv
              · have HW := Lib.hid (fun W => word_no (d := ⟨kind, frame, r, dw, dx, af, ng, soft, note⟩) (show checkDe st lv _ = false by unfold checkDe; rw [hp]; rfl) W)
                have HC := Lib.hid (fun W => check_is (d := ⟨kind, frame, r, dw, dx, af, ng, soft, note⟩) (show checkDe st lv _ = false by unfold checkDe; rw [hp]; rfl) (n := 1) rfl W)
                have HP := Lib.hid (fun W => place_any st lv W)
                rw [hp] at HP
                dsimp only [De.cells] at HW HC
                clear hp
                go_wp2_with fail
                refine Calls.mono (HW.out _) ?_
                rintro e w3 ⟨rfl, hb3⟩
                have hs3 := hb3.size
                try simp at hs3
                have hc3_0 := fun o => (bcell hb3).1 (wo.heap.size) o (by first | omega | (simp; done) | (simp; omega))
                have hf3_0 := fun o => (bcell hb3).2.1 (wo.heap.size) o (by first | omega | (simp; done) | (simp; omega))
                have hz3_0 := (bcell hb3).2.2 (wo.heap.size) (by first | omega | (simp; done) | (simp; omega))
                have HB3 := Lib.hid hb3
                clear hb3
                go_wp2_with fail
                refine Calls.mono (HP.out _) ?_
                rintro e w3 ⟨rfl, rfl⟩
                go_wp2_with fail
                refine Calls.mono (HC.out _) ?_
                rintro e w4 ⟨rfl, hb4⟩
                have hs4 := hb4.size
                try simp at hs4
                have hc4_0 := fun o => (bcell hb4).1 (wo.heap.size) o (by first | omega | (simp; done) | (simp; omega))
                have hf4_0 := fun o => (bcell hb4).2.1 (wo.heap.size) o (by first | omega | (simp; done) | (simp; omega))
                have hz4_0 := (bcell hb4).2.2 (wo.heap.size) (by first | omega | (simp; done) | (simp; omega))
                have HB4 := Lib.hid hb4
                clear hb4
                go_wp2_with (go_at_call 18; refine (HNU.out _ _).mono ?_; rintro e w' ⟨rfl, rfl⟩)
                go_roundw
                case rel => exact ⟨lv + 1, by omega, by omega, rfl, (by repeat' (first | (with_reducible exact Below.refl _ _) | (with_reducible (refine Below.setCell ?_ ?_ _)) | (with_reducible (refine Below.alloc ?_ ?_ _)) | (with_reducible (refine Below.drew ?_)) | (with_reducible (refine below_via ?_ HB4.out ?_)) | (with_reducible (refine below_via ?_ HB3.out ?_)) | (with_reducible (refine below_via ?_ HB2.out ?_)) | omega | (simp; done) | (simp; omega))), by omega, (by repeat (first | (with_reducible assumption) | (with_reducible exact HX2.out) | (with_reducible refine heap_below_is HB4.out (by (first | omega | (simp; done) | (simp; omega))) ?_) | (with_reducible refine heap_below_is HB3.out (by (first | omega | (simp; done) | (simp; omega))) ?_) | (exact heap_at _ _ (by simp; done)) | (with_reducible refine heap_old_is _ _ (by (first | omega | (simp; done) | (simp; omega))) ?_) | (with_reducible refine heap_far_is (by (first | omega | (simp; done) | (simp; omega))) ?_)))⟩
                case measure => simp [intOf]; omega
              · have HP := Lib.hid (fun W => place_any st lv W)
                have HR := Lib.hid (fun W => rul_any st lv ⟨kind, frame, r, dw, dx, af, ng, soft, note⟩ (placeOk_level hp).1 (placeOk_level hp).2 (placeOk_stage hp) W)
                rw [hp] at HP
                cases hm : mayDe st lv ⟨kind, frame, r, dw, dx, af, ng, soft, note⟩
                · have HW := Lib.hid (fun W => word_no (d := ⟨kind, frame, r, dw, dx, af, ng, soft, note⟩) (show checkDe st lv _ = false by unfold checkDe; rw [hm]; simp) W)
                  have HC := Lib.hid (fun W => check_is (d := ⟨kind, frame, r, dw, dx, af, ng, soft, note⟩) (show checkDe st lv _ = false by unfold checkDe; rw [hm]; simp) (n := 1) rfl W)
                  rw [hm] at HR
                  dsimp only [De.cells] at HW HC HR
                  clear hp hm
                  go_wp2_with fail
                  refine Calls.mono (HW.out _) ?_
                  rintro e w3 ⟨rfl, hb3⟩
                  have hs3 := hb3.size
                  try simp at hs3
                  have hc3_0 := fun o => (bcell hb3).1 (wo.heap.size) o (by first | omega | (simp; done) | (simp; omega))
                  have hf3_0 := fun o => (bcell hb3).2.1 (wo.heap.size) o (by first | omega | (simp; done) | (simp; omega))
                  have hz3_0 := (bcell hb3).2.2 (wo.heap.size) (by first | omega | (simp; done) | (simp; omega))
                  have HB3 := Lib.hid hb3
                  clear hb3
                  go_wp2_with fail
                  refine Calls.mono (HP.out _) ?_
                  rintro e w3 ⟨rfl, rfl⟩
                  go_wp2_with fail
                  refine Calls.mono (HR.out _) ?_
                  rintro e w4 ⟨rfl, hb4⟩
                  have hs4 := hb4.size
                  try simp at hs4
                  have hc4_0 := fun o => (bcell hb4).1 (wo.heap.size) o (by first | omega | (simp; done) | (simp; omega))
                  have hf4_0 := fun o => (bcell hb4).2.1 (wo.heap.size) o (by first | omega | (simp; done) | (simp; omega))
                  have hz4_0 := (bcell hb4).2.2 (wo.heap.size) (by first | omega | (simp; done) | (simp; omega))
                  have HB4 := Lib.hid hb4
                  clear hb4
                  go_wp2_with fail
                  refine Calls.mono (HC.out _) ?_
                  rintro e w5 ⟨rfl, hb5⟩
                  have hs5 := hb5.size
                  try simp at hs5
                  have hc5_0 := fun o => (bcell hb5).1 (wo.heap.size) o (by first | omega | (simp; done) | (simp; omega))
                  have hf5_0 := fun o => (bcell hb5).2.1 (wo.heap.size) o (by first | omega | (simp; done) | (simp; omega))
                  have hz5_0 := (bcell hb5).2.2 (wo.heap.size) (by first | omega | (simp; done) | (simp; omega))
                  have HB5 := Lib.hid hb5
                  clear hb5
                  go_wp2_with (go_at_call 18; refine (HNU.out _ _).mono ?_; rintro e w' ⟨rfl, rfl⟩)
                  go_roundw
                  case rel => exact ⟨lv + 1, by omega, by omega, rfl, (by repeat' (first | (with_reducible exact Below.refl _ _) | (with_reducible (refine Below.setCell ?_ ?_ _)) | (with_reducible (refine Below.alloc ?_ ?_ _)) | (with_reducible (refine Below.drew ?_)) | (with_reducible (refine below_via ?_ HB5.out ?_)) | (with_reducible (refine below_via ?_ HB4.out ?_)) | (with_reducible (refine below_via ?_ HB3.out ?_)) | (with_reducible (refine below_via ?_ HB2.out ?_)) | omega | (simp; done) | (simp; omega))), by omega, (by repeat (first | (with_reducible assumption) | (with_reducible exact HX2.out) | (with_reducible refine heap_below_is HB5.out (by (first | omega | (simp; done) | (simp; omega))) ?_) | (with_reducible refine heap_below_is HB4.out (by (first | omega | (simp; done) | (simp; omega))) ?_) | (with_reducible refine heap_below_is HB3.out (by (first | omega | (simp; done) | (simp; omega))) ?_) | (exact heap_at _ _ (by simp; done)) | (with_reducible refine heap_old_is _ _ (by (first | omega | (simp; done) | (simp; omega))) ?_) | (with_reducible refine heap_far_is (by (first | omega | (simp; done) | (simp; omega))) ?_)))⟩
                  case measure => simp [intOf]; omega
                · have HW := Lib.hid (fun W => word_yes (d := ⟨kind, frame, r, dw, dx, af, ng, soft, note⟩) (show checkDe st lv _ = true by unfold checkDe; rw [hp, hm]; rfl) W)
                  have HC := Lib.hid (fun W => check_is (d := ⟨kind, frame, r, dw, dx, af, ng, soft, note⟩) (show checkDe st lv _ = true by unfold checkDe; rw [hp, hm]; rfl) (n := 0) rfl W)
                  have HRW := Lib.hid (fun W => rword_any st lv ⟨kind, frame, r, dw, dx, af, ng, soft, note⟩ hm W)
                  rw [hm] at HR
                  dsimp only [De.cells] at HW HC HR HRW
                  generalize wordDe st lv _ = y at *
                  clear hp hm
                  go_wp2_with fail
                  refine Calls.mono (HW.out _) ?_
                  rintro e w3 ⟨rfl, hb3⟩
                  have hs3 := hb3.size
                  try simp at hs3
                  have hc3_0 := fun o => (bcell hb3).1 (wo.heap.size) o (by first | omega | (simp; done) | (simp; omega))
                  have hf3_0 := fun o => (bcell hb3).2.1 (wo.heap.size) o (by first | omega | (simp; done) | (simp; omega))
                  have hz3_0 := (bcell hb3).2.2 (wo.heap.size) (by first | omega | (simp; done) | (simp; omega))
                  have HB3 := Lib.hid hb3
                  clear hb3
                  go_wp2_with fail
                  refine Calls.mono (HP.out _) ?_
                  rintro e w3 ⟨rfl, rfl⟩
                  go_wp2_with fail
                  refine Calls.mono (HR.out _) ?_
                  rintro e w4 ⟨rfl, hb4⟩
                  have hs4 := hb4.size
                  try simp at hs4
                  have hc4_0 := fun o => (bcell hb4).1 (wo.heap.size) o (by first | omega | (simp; done) | (simp; omega))
                  have hf4_0 := fun o => (bcell hb4).2.1 (wo.heap.size) o (by first | omega | (simp; done) | (simp; omega))
                  have hz4_0 := (bcell hb4).2.2 (wo.heap.size) (by first | omega | (simp; done) | (simp; omega))
                  have HB4 := Lib.hid hb4
                  clear hb4
                  go_wp2_with fail
                  refine Calls.mono (HRW.out _) ?_
                  rintro e w6 ⟨rfl, hb6⟩
                  have hs6 := hb6.size
                  try simp at hs6
                  have hc6_0 := fun o => (bcell hb6).1 (wo.heap.size) o (by first | omega | (simp; done) | (simp; omega))
                  have hf6_0 := fun o => (bcell hb6).2.1 (wo.heap.size) o (by first | omega | (simp; done) | (simp; omega))
                  have hz6_0 := (bcell hb6).2.2 (wo.heap.size) (by first | omega | (simp; done) | (simp; omega))
                  have HB6 := Lib.hid hb6
                  clear hb6
                  go_wp2_with fail
                  refine Calls.mono (HC.out _) ?_
                  rintro e w5 ⟨rfl, hb5⟩
                  have hs5 := hb5.size
                  try simp at hs5
                  have hc5_0 := fun o => (bcell hb5).1 (wo.heap.size) o (by first | omega | (simp; done) | (simp; omega))
                  have hf5_0 := fun o => (bcell hb5).2.1 (wo.heap.size) o (by first | omega | (simp; done) | (simp; omega))
                  have hz5_0 := (bcell hb5).2.2 (wo.heap.size) (by first | omega | (simp; done) | (simp; omega))
                  have HB5 := Lib.hid hb5
                  clear hb5
                  go_wp2_with (go_at_call 18; refine (HNU.out _ _).mono ?_; rintro e w' ⟨rfl, rfl⟩)
                  go_roundw
                  case rel => exact ⟨lv + 1, by omega, by omega, rfl, (by repeat' (first | (with_reducible exact Below.refl _ _) | (with_reducible (refine Below.setCell ?_ ?_ _)) | (with_reducible (refine Below.alloc ?_ ?_ _)) | (with_reducible (refine Below.drew ?_)) | (with_reducible (refine below_via ?_ HB5.out ?_)) | (with_reducible (refine below_via ?_ HB6.out ?_)) | (with_reducible (refine below_via ?_ HB4.out ?_)) | (with_reducible (refine below_via ?_ HB3.out ?_)) | (with_reducible (refine below_via ?_ HB2.out ?_)) | omega | (simp; done) | (simp; omega))), by omega, (by repeat (first | (with_reducible assumption) | (with_reducible exact HX2.out) | (with_reducible refine heap_below_is HB5.out (by (first | omega | (simp; done) | (simp; omega))) ?_) | (with_reducible refine heap_below_is HB6.out (by (first | omega | (simp; done) | (simp; omega))) ?_) | (with_reducible refine heap_below_is HB4.out (by (first | omega | (simp; done) | (simp; omega))) ?_) | (with_reducible refine heap_below_is HB3.out (by (first | omega | (simp; done) | (simp; omega))) ?_) | (exact heap_at _ _ (by simp; done)) | (with_reducible refine heap_old_is _ _ (by (first | omega | (simp; done) | (simp; omega))) ?_) | (with_reducible refine heap_far_is (by (first | omega | (simp; done) | (simp; omega))) ?_)))⟩
                  case measure => simp [intOf]; omega
            · go_wp2
              go_roundw
              case rel => exact ⟨st + 1, by omega, by omega, rfl, HB2.out, hs2, HX2.out⟩
              case measure => simp [intOf]; omega
        · go_wp2
          go_loopw [11] (fun i wr => ∃ lv : Int, -1 ≤ lv ∧ lv ≤ 5 ∧ i = .int .i64 lv ∧ Below w.heap.size w wr ∧ wo.heap.size < wr.heap.size ∧ wr.heap[wo.heap.size]? = some (.cells #[.int .i64 qs, .int .i64 qe, .int .i64 qp, .int .i64 kind, .int .i64 frame, .bool r, .bool dw, .bool dx, .bool af, .bool ng, .int .i64 soft, .int .i64 note, .int .u64 qx] askT (0, 0))) (fun i _ => (5 - intOf i).toNat)
          case atStart => exact ⟨-1, by omega, by omega, rfl, HB1.out, hs1, HX1.out⟩
          case round =>
            obtain ⟨lv, hl0, hl1, rfl, hb2, hs2, hx2⟩ := hrel
            have HB2 := Lib.hid hb2
            have HX2 := Lib.hid hx2
            have hsw := hb2.size
            by_cases h4 : lv ≤ 4
            · have cq := fun j => cell_of_row _ _ j _ _ _ hx2
              clear hb2 hx2
              cases hp : numOk lv 3
              · have HC := Lib.hid (fun W => covers_is hp (m := 0) (n := 1) rfl rfl W)
                have HI := Lib.hid (fun W => index_is (page := qp) (show idxOk lv qp = false by unfold idxOk; rw [hp]; rfl) (m := 0) (n := 1) rfl rfl W)
                have HN := Lib.hid (fun W => num_any lv 3 W)
                rw [hp] at HN
                clear hp
                go_wp2_with fail
                refine Calls.mono (HC.out _) ?_
                rintro e w3 ⟨rfl, hb3⟩
                have hs3 := hb3.size
                try simp at hs3
                have hc3_0 := fun o => (bcell hb3).1 (wo.heap.size) o (by first | omega | (simp; done) | (simp; omega))
                have hf3_0 := fun o => (bcell hb3).2.1 (wo.heap.size) o (by first | omega | (simp; done) | (simp; omega))
                have hz3_0 := (bcell hb3).2.2 (wo.heap.size) (by first | omega | (simp; done) | (simp; omega))
                have HB3 := Lib.hid hb3
                clear hb3
                go_wp2_with fail
                refine Calls.mono (HI.out _) ?_
                rintro e w4 ⟨rfl, hb4⟩
                have hs4 := hb4.size
                try simp at hs4
                have hc4_0 := fun o => (bcell hb4).1 (wo.heap.size) o (by first | omega | (simp; done) | (simp; omega))
                have hf4_0 := fun o => (bcell hb4).2.1 (wo.heap.size) o (by first | omega | (simp; done) | (simp; omega))
                have hz4_0 := (bcell hb4).2.2 (wo.heap.size) (by first | omega | (simp; done) | (simp; omega))
                have HB4 := Lib.hid hb4
                clear hb4
                go_wp2_with fail
                refine Calls.mono (HN.out _) ?_
                rintro e w4 ⟨rfl, rfl⟩
                go_wp2_with fail
                refine Calls.mono (HNU.out _ _) ?_
                rintro e w4 ⟨rfl, rfl⟩
                go_wp2_with fail
                refine Calls.mono (HNU.out _ _) ?_
                rintro e w4 ⟨rfl, rfl⟩
                go_wp2_with fail
                refine Calls.mono (HNU.out _ _) ?_
                rintro e w4 ⟨rfl, rfl⟩
                go_wp2
                go_roundw
                case rel => exact ⟨lv + 1, by omega, by omega, rfl, (by repeat' (first | (with_reducible exact Below.refl _ _) | (with_reducible (refine Below.setCell ?_ ?_ _)) | (with_reducible (refine Below.alloc ?_ ?_ _)) | (with_reducible (refine Below.drew ?_)) | (with_reducible (refine below_via ?_ HB4.out ?_)) | (with_reducible (refine below_via ?_ HB3.out ?_)) | (with_reducible (refine below_via ?_ HB2.out ?_)) | omega | (simp; done) | (simp; omega))), by omega, (by repeat (first | (with_reducible assumption) | (with_reducible exact HX2.out) | (with_reducible refine heap_below_is HB4.out (by (first | omega | (simp; done) | (simp; omega))) ?_) | (with_reducible refine heap_below_is HB3.out (by (first | omega | (simp; done) | (simp; omega))) ?_) | (exact heap_at _ _ (by simp; done)) | (with_reducible refine heap_old_is _ _ (by (first | omega | (simp; done) | (simp; omega))) ?_) | (with_reducible refine heap_far_is (by (first | omega | (simp; done) | (simp; omega))) ?_)))⟩
                case measure => simp [intOf]; omega
              · have HC := Lib.hid (fun W => covers_is hp (m := coversOf lv) (n := 0) rfl rfl W)
                have HN := Lib.hid (fun W => num_any lv 3 W)
                have HP := Lib.hid (fun W => page_any qp W)
                have hl : 0 ≤ lv ∧ lv ≤ 3 := by simpa [numOk] using hp
                have HRC := Lib.hid (fun W => rcovers_any lv hl.1 hl.2 W)
                cases hm : numOk qp 4095
                · have HI := Lib.hid (fun W => index_is (page := qp) (show idxOk lv qp = false by unfold idxOk; rw [hm]; simp) (m := 0) (n := 1) rfl rfl W)
                  rw [hp] at HN
                  rw [hm] at HP
                  clear hp hm hl
                  generalize coversOf lv = cv at *
                  go_wp2_with fail
                  refine Calls.mono (HC.out _) ?_
                  rintro e w3 ⟨rfl, hb3⟩
                  have hs3 := hb3.size
                  try simp at hs3
                  have hc3_0 := fun o => (bcell hb3).1 (wo.heap.size) o (by first | omega | (simp; done) | (simp; omega))
                  have hf3_0 := fun o => (bcell hb3).2.1 (wo.heap.size) o (by first | omega | (simp; done) | (simp; omega))
                  have hz3_0 := (bcell hb3).2.2 (wo.heap.size) (by first | omega | (simp; done) | (simp; omega))
                  have HB3 := Lib.hid hb3
                  clear hb3
                  go_wp2_with fail
                  refine Calls.mono (HI.out _) ?_
                  rintro e w4 ⟨rfl, hb4⟩
                  have hs4 := hb4.size
                  try simp at hs4
                  have hc4_0 := fun o => (bcell hb4).1 (wo.heap.size) o (by first | omega | (simp; done) | (simp; omega))
                  have hf4_0 := fun o => (bcell hb4).2.1 (wo.heap.size) o (by first | omega | (simp; done) | (simp; omega))
                  have hz4_0 := (bcell hb4).2.2 (wo.heap.size) (by first | omega | (simp; done) | (simp; omega))
                  have HB4 := Lib.hid hb4
                  clear hb4
                  go_wp2_with fail
                  refine Calls.mono (HN.out _) ?_
                  rintro e w4 ⟨rfl, rfl⟩
                  go_wp2_with fail
                  refine Calls.mono (HNU.out _ _) ?_
                  rintro e w4 ⟨rfl, rfl⟩
                  go_wp2_with fail
                  refine Calls.mono (HRC.out _) ?_
                  rintro e w5 ⟨rfl, hb5⟩
                  have hs5 := hb5.size
                  try simp at hs5
                  have hc5_0 := fun o => (bcell hb5).1 (wo.heap.size) o (by first | omega | (simp; done) | (simp; omega))
                  have hf5_0 := fun o => (bcell hb5).2.1 (wo.heap.size) o (by first | omega | (simp; done) | (simp; omega))
                  have hz5_0 := (bcell hb5).2.2 (wo.heap.size) (by first | omega | (simp; done) | (simp; omega))
                  have HB5 := Lib.hid hb5
                  clear hb5
                  go_wp2_with fail
                  refine Calls.mono (HP.out _) ?_
                  rintro e w5 ⟨rfl, rfl⟩
                  go_wp2_with fail
                  refine Calls.mono (HNU.out _ _) ?_
                  rintro e w5 ⟨rfl, rfl⟩
                  go_wp2_with fail
                  refine Calls.mono (HNU.out _ _) ?_
                  rintro e w5 ⟨rfl, rfl⟩
                  go_wp2
                  go_roundw
                  case rel => exact ⟨lv + 1, by omega, by omega, rfl, (by repeat' (first | (with_reducible exact Below.refl _ _) | (with_reducible (refine Below.setCell ?_ ?_ _)) | (with_reducible (refine Below.alloc ?_ ?_ _)) | (with_reducible (refine Below.drew ?_)) | (with_reducible (refine below_via ?_ HB5.out ?_)) | (with_reducible (refine below_via ?_ HB4.out ?_)) | (with_reducible (refine below_via ?_ HB3.out ?_)) | (with_reducible (refine below_via ?_ HB2.out ?_)) | omega | (simp; done) | (simp; omega))), by omega, (by repeat (first | (with_reducible assumption) | (with_reducible exact HX2.out) | (with_reducible refine heap_below_is HB5.out (by (first | omega | (simp; done) | (simp; omega))) ?_) | (with_reducible refine heap_below_is HB4.out (by (first | omega | (simp; done) | (simp; omega))) ?_) | (with_reducible refine heap_below_is HB3.out (by (first | omega | (simp; done) | (simp; omega))) ?_) | (exact heap_at _ _ (by simp; done)) | (with_reducible refine heap_old_is _ _ (by (first | omega | (simp; done) | (simp; omega))) ?_) | (with_reducible refine heap_far_is (by (first | omega | (simp; done) | (simp; omega))) ?_)))⟩
                  case measure => simp [intOf]; omega
                · have hi : idxOk lv qp = true := by unfold idxOk; rw [hp, hm]; rfl
                  have HI := Lib.hid (fun W => index_is hi (m := idxOf lv qp) (n := 0) rfl rfl W)
                  have HRI := Lib.hid (fun W => rindex_any lv qp hi W)
                  rw [hp] at HN
                  rw [hm] at HP
                  clear hp hm hl hi
                  generalize coversOf lv = cv at *
                  generalize idxOf lv qp = ix at *
                  go_wp2_with fail
                  refine Calls.mono (HC.out _) ?_
                  rintro e w3 ⟨rfl, hb3⟩
                  have hs3 := hb3.size
                  try simp at hs3
                  have hc3_0 := fun o => (bcell hb3).1 (wo.heap.size) o (by first | omega | (simp; done) | (simp; omega))
                  have hf3_0 := fun o => (bcell hb3).2.1 (wo.heap.size) o (by first | omega | (simp; done) | (simp; omega))
                  have hz3_0 := (bcell hb3).2.2 (wo.heap.size) (by first | omega | (simp; done) | (simp; omega))
                  have HB3 := Lib.hid hb3
                  clear hb3
                  go_wp2_with fail
                  refine Calls.mono (HI.out _) ?_
                  rintro e w4 ⟨rfl, hb4⟩
                  have hs4 := hb4.size
                  try simp at hs4
                  have hc4_0 := fun o => (bcell hb4).1 (wo.heap.size) o (by first | omega | (simp; done) | (simp; omega))
                  have hf4_0 := fun o => (bcell hb4).2.1 (wo.heap.size) o (by first | omega | (simp; done) | (simp; omega))
                  have hz4_0 := (bcell hb4).2.2 (wo.heap.size) (by first | omega | (simp; done) | (simp; omega))
                  have HB4 := Lib.hid hb4
                  clear hb4
                  go_wp2_with fail
                  refine Calls.mono (HN.out _) ?_
                  rintro e w4 ⟨rfl, rfl⟩
                  go_wp2_with fail
                  refine Calls.mono (HNU.out _ _) ?_
                  rintro e w4 ⟨rfl, rfl⟩
                  go_wp2_with fail
                  refine Calls.mono (HRC.out _) ?_
                  rintro e w5 ⟨rfl, hb5⟩
                  have hs5 := hb5.size
                  try simp at hs5
                  have hc5_0 := fun o => (bcell hb5).1 (wo.heap.size) o (by first | omega | (simp; done) | (simp; omega))
                  have hf5_0 := fun o => (bcell hb5).2.1 (wo.heap.size) o (by first | omega | (simp; done) | (simp; omega))
                  have hz5_0 := (bcell hb5).2.2 (wo.heap.size) (by first | omega | (simp; done) | (simp; omega))
                  have HB5 := Lib.hid hb5
                  clear hb5
                  go_wp2_with fail
                  refine Calls.mono (HP.out _) ?_
                  rintro e w5 ⟨rfl, rfl⟩
                  go_wp2_with fail
                  refine Calls.mono (HNU.out _ _) ?_
                  rintro e w5 ⟨rfl, rfl⟩
                  go_wp2_with fail
                  refine Calls.mono (HRI.out _) ?_
                  rintro e w6 ⟨rfl, hb6⟩
                  have hs6 := hb6.size
                  try simp at hs6
                  have hc6_0 := fun o => (bcell hb6).1 (wo.heap.size) o (by first | omega | (simp; done) | (simp; omega))
                  have hf6_0 := fun o => (bcell hb6).2.1 (wo.heap.size) o (by first | omega | (simp; done) | (simp; omega))
                  have hz6_0 := (bcell hb6).2.2 (wo.heap.size) (by first | omega | (simp; done) | (simp; omega))
                  have HB6 := Lib.hid hb6
                  clear hb6
                  go_wp2
                  go_roundw
                  case rel => exact ⟨lv + 1, by omega, by omega, rfl, (by repeat' (first | (with_reducible exact Below.refl _ _) | (with_reducible (refine Below.setCell ?_ ?_ _)) | (with_reducible (refine Below.alloc ?_ ?_ _)) | (with_reducible (refine Below.drew ?_)) | (with_reducible (refine below_via ?_ HB6.out ?_)) | (with_reducible (refine below_via ?_ HB5.out ?_)) | (with_reducible (refine below_via ?_ HB4.out ?_)) | (with_reducible (refine below_via ?_ HB3.out ?_)) | (with_reducible (refine below_via ?_ HB2.out ?_)) | omega | (simp; done) | (simp; omega))), by omega, (by repeat (first | (with_reducible assumption) | (with_reducible exact HX2.out) | (with_reducible refine heap_below_is HB6.out (by (first | omega | (simp; done) | (simp; omega))) ?_) | (with_reducible refine heap_below_is HB5.out (by (first | omega | (simp; done) | (simp; omega))) ?_) | (with_reducible refine heap_below_is HB4.out (by (first | omega | (simp; done) | (simp; omega))) ?_) | (with_reducible refine heap_below_is HB3.out (by (first | omega | (simp; done) | (simp; omega))) ?_) | (exact heap_at _ _ (by simp; done)) | (with_reducible refine heap_old_is _ _ (by (first | omega | (simp; done) | (simp; omega))) ?_) | (with_reducible refine heap_far_is (by (first | omega | (simp; done) | (simp; omega))) ?_)))⟩
                  case measure => simp [intOf]; omega
            · go_wp2
              go_roundw
              case rel => exact ⟨k + 1, by omega, by go_num, HB2.out⟩
              case measure => simp [intOf]; omega
    · have hno : ¬ (k < asks.length ∧ k < 12) := hlt
      by_cases h1 : k < asks.length
      · have h2 : ¬ k < 12 := fun h => hno ⟨h1, h⟩
        clear hno hlt
        go_wp2_with (go_at_call 26; refine (wakes_any _).mono ?_; rintro e w1 ⟨rfl, hb1⟩; have HB1 := Lib.hid hb1; clear hb1)
        go_ret
        exact ⟨rfl, below_call HB.out HB1.out HB.out.size⟩
      · clear hno hlt
        go_wp2_with (go_at_call 26; refine (wakes_any _).mono ?_; rintro e w1 ⟨rfl, hb1⟩; have HB1 := Lib.hid hb1; clear hb1)
        go_ret
        exact ⟨rfl, below_call HB.out HB1.out HB.out.size⟩

end Go.Proofs.Ytiapjaaaoeoaeaa
