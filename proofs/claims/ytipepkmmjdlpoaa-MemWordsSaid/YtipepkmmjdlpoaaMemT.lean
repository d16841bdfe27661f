/-
  The statements of one size: a script whose writes and reads are of one size. Conditions: the script reads as such.
-/
import Derived.Test.YtipepkmmjdlpoaaMemS
namespace Go.Proofs.Ytipepkmmjdlpoaa
open Go.RowKit

theorem act_len (a : Act) : (Act.cells a).length = 5 := rfl
theorem act_info : (Try.prog.info? actT).map (fun i => (i.zero, i.size, i.bytes)) = some (some (.agg #[.int .i64 0, .int .i64 0, .int .i64 0, .int .u64 0, .slice none 0 0]), 5, 56) := by kernel_rfl
def scriptT : TypeId := 27

set_option maxRecDepth 100000 in
set_option maxHeartbeats 4000000 in
theorem sizes_any (s : Script) (size : Int) (w : World) (hs : ScriptAt w s) (hsz : size = 1 ∨ size = 2 ∨ size = 4 ∨ size = 8) :
    Calls Try.prog 34 #[.agg s.cells.toArray, .int .i64 size] w fun e w' => e = .returned (.bool true) ∧ Below w.heap.size w w' := by
  have HHV := Lib.hid (fun W (hb : Below w.heap.size w W) => heavy_any s W ⟨hs.mcap, hs.mlen, hs.mat.below hb, hs.mok, hs.llen, hs.lat.below hb, fun a ha => by
    obtain ⟨h1, h2, h3, h4, h5, h6, h7⟩ := hs.lok a ha
    exact ⟨h1, h2, h3, h4, h5, h6.below hb, h7⟩⟩)
  obtain ⟨hcap, hml, hmat, hmok, hll, hlat, hlok⟩ := hs
  obtain ⟨ma, mc, ws0, la, lc, acts⟩ := s
  simp only [Script.cells] at *
  have HMA := Lib.hid hmat
  have HMO := Lib.hid hmok
  have HLA := Lib.hid hlat
  have HLO := Lib.hid hlok
  have HCAP := Lib.hid hcap
  have HS := Lib.hid hsz
  obtain ⟨i0, hi0, hz0, hz1, hz2⟩ := info_parts act_info
  have hs1 : 1 ≤ size := by omega
  have hs8 : size ≤ 8 := by omega
  clear hcap hmat hmok hlat hlok hsz
  go_enter Try.func34, Try.ntmps34
  go_wp2_with fail
  refine (HHV.out _ (by repeat' (first | (with_reducible exact Below.refl _ _) | (with_reducible (refine Below.setCell ?_ ?_ _)) | (with_reducible (refine Below.alloc ?_ ?_ _)) | (with_reducible (refine Below.drew ?_)) | omega | (simp; done) | (simp; omega)))).mono ?_
  rintro e w1 ⟨b, hlight, rfl, hb1⟩
  have hs1' := hb1.size
  simp at hs1'
  have hc1 := fun o => (bcell hb1).1 w.heap.size o (by simp)
  have hf1 := fun o => (bcell hb1).2.1 w.heap.size o (by simp)
  have hz1' : w.heap.size < w1.heap.size := by omega
  have HB1 := Lib.hid hb1
  have HLIGHT := Lib.hid hlight
  clear hb1 hlight HHV
  cases b
  case true =>
    go_wp2
    go_ret
    exact ⟨rfl, (by repeat' (first | (with_reducible exact Below.refl _ _) | (with_reducible (refine Below.setCell ?_ ?_ _)) | (with_reducible (refine Below.alloc ?_ ?_ _)) | (with_reducible (refine Below.drew ?_)) | (with_reducible (refine below_via ?_ HB1.out ?_)) | omega | (simp; done) | (simp; omega)))⟩
  case false =>
    obtain ⟨hl1, hl2, hl3⟩ := HLIGHT.out rfl
    dsimp only at hl1 hl2 hl3
    clear HLIGHT hl3
    go_wp2_with fail
    obtain ⟨w2, hw2⟩ : ∃ w2, w2 = w1.alloc (.cells #[.slice ma ws0.length mc, .slice none 0 0] 27) := ⟨_, rfl⟩
    have HB2 := Lib.hid (show Below w.heap.size w w2 by rw [hw2]; exact (by repeat' (first | (with_reducible exact Below.refl _ _) | (with_reducible (refine Below.setCell ?_ ?_ _)) | (with_reducible (refine Below.alloc ?_ ?_ _)) | (with_reducible (refine Below.drew ?_)) | (with_reducible (refine below_via ?_ HB1.out ?_)) | omega | (simp; done) | (simp; omega))))
    have HXP := Lib.hid (show w2.heap[w.heap.size]? = some (.cells #[.slice ma ws0.length mc, .slice la acts.length lc] scriptT (0, 0)) by rw [hw2]; exact (heap_old _ _ hz1').trans (by repeat (first | (with_reducible assumption) | (with_reducible refine heap_below_is HB1.out (by (first | omega | (simp; done) | (simp; omega))) ?_) | (exact heap_at _ _ (by simp; done)) | (with_reducible refine heap_old_is _ _ (by (first | omega | (simp; done) | (simp; omega))) ?_) | (with_reducible refine heap_far_is (by (first | omega | (simp; done) | (simp; omega))) ?_))))
    have HXQ := Lib.hid (show w2.heap[w1.heap.size]? = some (.cells #[.slice ma ws0.length mc, .slice none 0 0] scriptT (0, 0)) by rw [hw2]; exact heap_new _ _)
    have hs2 : w1.heap.size < w2.heap.size := by rw [hw2]; simp
    rw [← hw2]
    clear hw2 hc1 hf1
    go_loopw [6] (fun i wr => ∃ (k : Nat) (l : List Act) (A : Option Addr) (c : Nat), k ≤ acts.length ∧ i = .int .i64 k ∧ l.length = k ∧ (∀ a ∈ l, ActAt w a) ∧ Own wr w2.heap.size actT 5 Act.cells l A c ∧
      wr.heap[w1.heap.size]? = some (.cells #[.slice ma ws0.length mc, .slice A k c] scriptT (0, 0)) ∧ Below w1.heap.size w2 wr ∧ w2.heap.size ≤ wr.heap.size) (fun i _ => acts.length - (intOf i).toNat)
    case atStart => exact ⟨0, [], none, 0, Nat.zero_le _, rfl, rfl, fun a h => (by cases h), World.ownsRow_nil _ _ _ _, HXQ.out, Below.refl _ _, Nat.le_refl _⟩
    case round =>
      obtain ⟨k, l, A, c, hk, rfl, hlen, hok, hown, hxq, hbw, hsz2⟩ := hrel
      have HLEN := Lib.hid hlen
      have HOK := Lib.hid hok
      have HOWN := Lib.hid hown
      have HXQ2 := Lib.hid hxq
      have HBW := Lib.hid hbw
      have e1 := cell_of_row _ _ 1 _ _ _ (heap_below_is hbw hz1' HXP.out)
      have q0 := cell_of_row _ _ 0 _ _ _ hxq
      have q1 := cell_of_row _ _ 1 _ _ _ hxq
      have qf := fun j => frozen_of_row _ _ j _ _ hxq
      have hql := heap_lt hxq
      have hn1 : ¬ w1.heap.size = wr.heap.size := by omega
      have hn2 : ¬ w.heap.size = wr.heap.size := by omega
      have hpl : w.heap.size < wr.heap.size := by omega
      clear hlen hok hown hxq hbw
      by_cases hlt : k < acts.length
      · have HBR := Lib.hid ((by repeat' (first | (with_reducible exact Below.refl _ _) | (with_reducible (refine Below.setCell ?_ ?_ _)) | (with_reducible (refine Below.alloc ?_ ?_ _)) | (with_reducible (refine Below.drew ?_)) | (with_reducible (refine below_via ?_ HBW.out ?_)) | (with_reducible (refine below_via ?_ HB2.out ?_)) | omega | (simp; done) | (simp; omega))) : Below w.heap.size w wr)
        obtain ⟨ba, oa, rfl, hba, c0, c1, c2, c3, c4⟩ := act_cells HLA.out HBR.out hlt
        have HAA := Lib.hid (HLO.out acts[k] (List.getElem_mem hlt))
        have hki : (k : Int) < acts.length := by omega
        generalize acts[k] = a at *
        obtain ⟨a0, a1, a2, a3, lad, lcap, ll⟩ := a
        dsimp only at c0 c1 c2 c3 c4
        have HOWNK := Lib.hid (show wr.ownsRow w2.heap.size actT 5 (.slice A k c) k (l.flatMap Act.cells) from by have := HOWN.out; unfold Own at this; rwa [HLEN.out] at this)
        have hk0 : (0 : Int) ≤ (k : Int) := by omega
        by_cases hk3 : k % 3 = 0
        · have hq3 : decide ((0 : Int) < (k : Int) % 3) = false := by simp; omega
          go_wp2_with (at_builtin; refine wpList_push rfl (.tmp 47) (.tmp 49) _ rfl w2.heap.size actT i0 _ 5 56 Try.underlying25 hi0 hz0 hz1 hz2 rfl (by omega) _ k _ rfl (HOWNK.out.alloc _) _ (by rfl) (by simp [Value.oneCell']) (by first | rfl | (simp; rfl)) (by simp only [maxLen]; omega) (by omega) (by simp; omega) ?_; intro v5 w5 hown5 hb5; obtain ⟨A5, c5, rfl, ho5⟩ := own_form (l := l ++ [⟨(k : Int) % 2 * 4, a1, size, a3, lad, lcap, ll⟩]) (by rw [List.length_append, HLEN.out, List.flatMap_append]; exact hown5); have HO5 := Lib.hid ho5; have hl5 : (l ++ [(⟨(k : Int) % 2 * 4, a1, size, a3, lad, lcap, ll⟩ : Act)]).length = k + 1 := (by simp [HLEN.out]); rw [hl5]; have HL5 := Lib.hid hl5; clear hl5; have HB5 := Lib.hid hb5; have hs5 := hb5.size; (try simp at hs5); have hc5 := fun b o (h : b < w2.heap.size) => hb5.cell (p := ⟨b, o, none⟩) h; have hf5 := fun b o (h : b < w2.heap.size) => hb5.frozen (p := ⟨b, o, none⟩) h; clear hown5 hb5 ho5)
          go_roundw
          case rel =>
            refine ⟨k + 1, l ++ [⟨(k : Int) % 2 * 4, a1, size, a3, lad, lcap, ll⟩], A5, c5, by omega, by go_num, HL5.out, ?_, HO5.out.set_far (by simp; omega) _, ?_, ?_, ?_⟩
            · intro b hb
              rcases List.mem_append.1 hb with hb | hb
              · exact HOK.out b hb
              · rw [List.mem_singleton.1 hb]
                exact ⟨by unfold isInt; dsimp only; omega, by have := HAA.out.2.1; unfold isInt at *; dsimp only at *; omega, by unfold isInt; dsimp only; omega, HAA.out.2.2.2.1, HAA.out.2.2.2.2.1, HAA.out.2.2.2.2.2.1, HAA.out.2.2.2.2.2.2⟩
            · exact (heap_set_same (heap_below_is HB5.out (by omega) (heap_old_is _ _ hql HXQ2.out)) 1 _).trans rfl
            · exact ((HBW.out.alloc (by omega) _).trans (HB5.out.mono (by omega))).setCell (by simp) _
            · simp; omega
          case measure => simp [intOf]; omega
        · have hq3 : decide ((0 : Int) < (k : Int) % 3) = true := by simp; omega
          by_cases ha1 : 0 ≤ a1
          · have hq4 : decide ((0 : Int) ≤ a1) = true := by simp; omega
            have hx0 : 0 ≤ a1 / size := Int.ediv_nonneg ha1 (by omega)
            have hx1 : 0 ≤ a1 / size * size := Int.mul_nonneg hx0 (by omega)
            have hx2 : a1 / size * size ≤ a1 := Int.ediv_mul_le _ (by omega)
            have hx3 : a1 ≤ 9223372036854775807 := HAA.out.2.1.2
            have hx4 : a1 / size * size ≤ 9223372036854775807 := by omega
            go_wp2_with (at_builtin; refine wpList_push rfl (.tmp 47) (.tmp 49) _ rfl w2.heap.size actT i0 _ 5 56 Try.underlying25 hi0 hz0 hz1 hz2 rfl (by omega) _ k _ rfl (HOWNK.out.alloc _) _ (by rfl) (by simp [Value.oneCell']) (by first | rfl | (simp; rfl)) (by simp only [maxLen]; omega) (by omega) (by simp; omega) ?_; intro v5 w5 hown5 hb5; obtain ⟨A5, c5, rfl, ho5⟩ := own_form (l := l ++ [⟨(k : Int) % 2 * 4, (a1 / size * size), size, a3, lad, lcap, ll⟩]) (by rw [List.length_append, HLEN.out, List.flatMap_append]; exact hown5); have HO5 := Lib.hid ho5; have hl5 : (l ++ [(⟨(k : Int) % 2 * 4, (a1 / size * size), size, a3, lad, lcap, ll⟩ : Act)]).length = k + 1 := (by simp [HLEN.out]); rw [hl5]; have HL5 := Lib.hid hl5; clear hl5; have HB5 := Lib.hid hb5; have hs5 := hb5.size; (try simp at hs5); have hc5 := fun b o (h : b < w2.heap.size) => hb5.cell (p := ⟨b, o, none⟩) h; have hf5 := fun b o (h : b < w2.heap.size) => hb5.frozen (p := ⟨b, o, none⟩) h; clear hown5 hb5 ho5)
            go_roundw
            case rel =>
              refine ⟨k + 1, l ++ [⟨(k : Int) % 2 * 4, (a1 / size * size), size, a3, lad, lcap, ll⟩], A5, c5, by omega, by go_num, HL5.out, ?_, HO5.out.set_far (by simp; omega) _, ?_, ?_, ?_⟩
              · intro b hb
                rcases List.mem_append.1 hb with hb | hb
                · exact HOK.out b hb
                · rw [List.mem_singleton.1 hb]
                  exact ⟨by unfold isInt; dsimp only; omega, by have := HAA.out.2.1; unfold isInt at *; dsimp only at *; exact ⟨by omega, by omega⟩, by unfold isInt; dsimp only; omega, HAA.out.2.2.2.1, HAA.out.2.2.2.2.1, HAA.out.2.2.2.2.2.1, HAA.out.2.2.2.2.2.2⟩
              · exact (heap_set_same (heap_below_is HB5.out (by omega) (heap_old_is _ _ hql HXQ2.out)) 1 _).trans rfl
              · exact ((HBW.out.alloc (by omega) _).trans (HB5.out.mono (by omega))).setCell (by simp) _
              · simp; omega
            case measure => simp [intOf]; omega
          · have hq4 : decide ((0 : Int) ≤ a1) = false := by simp; omega
            go_wp2_with (at_builtin; refine wpList_push rfl (.tmp 47) (.tmp 49) _ rfl w2.heap.size actT i0 _ 5 56 Try.underlying25 hi0 hz0 hz1 hz2 rfl (by omega) _ k _ rfl (HOWNK.out.alloc _) _ (by rfl) (by simp [Value.oneCell']) (by first | rfl | (simp; rfl)) (by simp only [maxLen]; omega) (by omega) (by simp; omega) ?_; intro v5 w5 hown5 hb5; obtain ⟨A5, c5, rfl, ho5⟩ := own_form (l := l ++ [⟨(k : Int) % 2 * 4, a1, size, a3, lad, lcap, ll⟩]) (by rw [List.length_append, HLEN.out, List.flatMap_append]; exact hown5); have HO5 := Lib.hid ho5; have hl5 : (l ++ [(⟨(k : Int) % 2 * 4, a1, size, a3, lad, lcap, ll⟩ : Act)]).length = k + 1 := (by simp [HLEN.out]); rw [hl5]; have HL5 := Lib.hid hl5; clear hl5; have HB5 := Lib.hid hb5; have hs5 := hb5.size; (try simp at hs5); have hc5 := fun b o (h : b < w2.heap.size) => hb5.cell (p := ⟨b, o, none⟩) h; have hf5 := fun b o (h : b < w2.heap.size) => hb5.frozen (p := ⟨b, o, none⟩) h; clear hown5 hb5 ho5)
            go_roundw
            case rel =>
              refine ⟨k + 1, l ++ [⟨(k : Int) % 2 * 4, a1, size, a3, lad, lcap, ll⟩], A5, c5, by omega, by go_num, HL5.out, ?_, HO5.out.set_far (by simp; omega) _, ?_, ?_, ?_⟩
              · intro b hb
                rcases List.mem_append.1 hb with hb | hb
                · exact HOK.out b hb
                · rw [List.mem_singleton.1 hb]
                  exact ⟨by unfold isInt; dsimp only; omega, by have := HAA.out.2.1; unfold isInt at *; dsimp only at *; omega, by unfold isInt; dsimp only; omega, HAA.out.2.2.2.1, HAA.out.2.2.2.2.1, HAA.out.2.2.2.2.2.1, HAA.out.2.2.2.2.2.2⟩
              · exact (heap_set_same (heap_below_is HB5.out (by omega) (heap_old_is _ _ hql HXQ2.out)) 1 _).trans rfl
              · exact ((HBW.out.alloc (by omega) _).trans (HB5.out.mono (by omega))).setCell (by simp) _
              · simp; omega
            case measure => simp [intOf]; omega
      · have hkk : k = acts.length := by omega
        have HME := Lib.hid (fun W (hb : Below wr.heap.size wr W) => memExact_walk ⟨ma, mc, ws0, A, c, l⟩ W ⟨HCAP.out, hml, (HMA.out.below (by repeat' (first | (with_reducible exact Below.refl _ _) | (with_reducible (refine Below.setCell ?_ ?_ _)) | (with_reducible (refine Below.alloc ?_ ?_ _)) | (with_reducible (refine Below.drew ?_)) | (with_reducible (refine below_via ?_ HBW.out ?_)) | (with_reducible (refine below_via ?_ HB2.out ?_)) | omega | (simp; done) | (simp; omega)))).below hb, HMO.out, by rw [HLEN.out]; omega, (HOWN.out.at_ act_len).below hb, fun a ha => by
          obtain ⟨g1, g2, g3, g4, g5, g6, g7⟩ := HOK.out a ha
          exact ⟨g1, g2, g3, g4, g5, (g6.below (by repeat' (first | (with_reducible exact Below.refl _ _) | (with_reducible (refine Below.setCell ?_ ?_ _)) | (with_reducible (refine Below.alloc ?_ ?_ _)) | (with_reducible (refine Below.drew ?_)) | (with_reducible (refine below_via ?_ HBW.out ?_)) | (with_reducible (refine below_via ?_ HB2.out ?_)) | omega | (simp; done) | (simp; omega)))).below hb, g7⟩⟩)
        simp only [Script.cells, HLEN.out] at HME
        clear hkk
        go_wp2_with fail
        refine (HME.out _ (by repeat' (first | (with_reducible exact Below.refl _ _) | (with_reducible (refine Below.setCell ?_ ?_ _)) | (with_reducible (refine Below.alloc ?_ ?_ _)) | (with_reducible (refine Below.drew ?_)) | omega | (simp; done) | (simp; omega)))).mono ?_
        rintro e w7 ⟨rfl, hb7⟩
        have hs7 := hb7.size
        try simp at hs7
        have HB7 := Lib.hid hb7
        clear hb7
        go_wp2
        go_ret
        exact ⟨rfl, (by repeat' (first | (with_reducible exact Below.refl _ _) | (with_reducible (refine Below.setCell ?_ ?_ _)) | (with_reducible (refine Below.alloc ?_ ?_ _)) | (with_reducible (refine Below.drew ?_)) | (with_reducible (refine below_via ?_ HB7.out ?_)) | (with_reducible (refine below_via ?_ HBW.out ?_)) | (with_reducible (refine below_via ?_ HB2.out ?_)) | omega | (simp; done) | (simp; omega)))⟩

/-- The statements of one size. -/
theorem bytes_any (s : Script) (w : World) (hs : ScriptAt w s) :
    Calls Try.prog 6 #[.agg s.cells.toArray] w fun e w' => e = .returned (.bool true) ∧ Below w.heap.size w w' := by
  have HC := Lib.hid (fun W (hb : Below w.heap.size w W) => sizes_any s 1 W ⟨hs.mcap, hs.mlen, hs.mat.below hb, hs.mok, hs.llen, hs.lat.below hb, fun a ha => by
    obtain ⟨h1, h2, h3, h4, h5, h6, h7⟩ := hs.lok a ha
    exact ⟨h1, h2, h3, h4, h5, h6.below hb, h7⟩⟩ (by omega))
  obtain ⟨ma, mc, ws0, la, lc, acts⟩ := s
  simp only [Script.cells] at *
  clear hs
  go_enter Try.func6, Try.ntmps6
  go_wp2_with fail
  refine (HC.out _ (by repeat' (first | (with_reducible exact Below.refl _ _) | (with_reducible (refine Below.setCell ?_ ?_ _)) | (with_reducible (refine Below.alloc ?_ ?_ _)) | (with_reducible (refine Below.drew ?_)) | omega | (simp; done) | (simp; omega)))).mono ?_
  rintro e w1 ⟨rfl, hb1⟩
  have hs1 := hb1.size
  try simp at hs1
  have HB1 := Lib.hid hb1
  clear hb1
  go_wp2
  go_ret
  exact ⟨rfl, (by repeat' (first | (with_reducible exact Below.refl _ _) | (with_reducible (refine Below.setCell ?_ ?_ _)) | (with_reducible (refine Below.alloc ?_ ?_ _)) | (with_reducible (refine Below.drew ?_)) | (with_reducible (refine below_via ?_ HB1.out ?_)) | omega | (simp; done) | (simp; omega)))⟩

theorem halves_any (s : Script) (w : World) (hs : ScriptAt w s) :
    Calls Try.prog 7 #[.agg s.cells.toArray] w fun e w' => e = .returned (.bool true) ∧ Below w.heap.size w w' := by
  have HC := Lib.hid (fun W (hb : Below w.heap.size w W) => sizes_any s 2 W ⟨hs.mcap, hs.mlen, hs.mat.below hb, hs.mok, hs.llen, hs.lat.below hb, fun a ha => by
    obtain ⟨h1, h2, h3, h4, h5, h6, h7⟩ := hs.lok a ha
    exact ⟨h1, h2, h3, h4, h5, h6.below hb, h7⟩⟩ (by omega))
  obtain ⟨ma, mc, ws0, la, lc, acts⟩ := s
  simp only [Script.cells] at *
  clear hs
  go_enter Try.func7, Try.ntmps7
  go_wp2_with fail
  refine (HC.out _ (by repeat' (first | (with_reducible exact Below.refl _ _) | (with_reducible (refine Below.setCell ?_ ?_ _)) | (with_reducible (refine Below.alloc ?_ ?_ _)) | (with_reducible (refine Below.drew ?_)) | omega | (simp; done) | (simp; omega)))).mono ?_
  rintro e w1 ⟨rfl, hb1⟩
  have hs1 := hb1.size
  try simp at hs1
  have HB1 := Lib.hid hb1
  clear hb1
  go_wp2
  go_ret
  exact ⟨rfl, (by repeat' (first | (with_reducible exact Below.refl _ _) | (with_reducible (refine Below.setCell ?_ ?_ _)) | (with_reducible (refine Below.alloc ?_ ?_ _)) | (with_reducible (refine Below.drew ?_)) | (with_reducible (refine below_via ?_ HB1.out ?_)) | omega | (simp; done) | (simp; omega)))⟩

theorem words4_any (s : Script) (w : World) (hs : ScriptAt w s) :
    Calls Try.prog 8 #[.agg s.cells.toArray] w fun e w' => e = .returned (.bool true) ∧ Below w.heap.size w w' := by
  have HC := Lib.hid (fun W (hb : Below w.heap.size w W) => sizes_any s 4 W ⟨hs.mcap, hs.mlen, hs.mat.below hb, hs.mok, hs.llen, hs.lat.below hb, fun a ha => by
    obtain ⟨h1, h2, h3, h4, h5, h6, h7⟩ := hs.lok a ha
    exact ⟨h1, h2, h3, h4, h5, h6.below hb, h7⟩⟩ (by omega))
  obtain ⟨ma, mc, ws0, la, lc, acts⟩ := s
  simp only [Script.cells] at *
  clear hs
  go_enter Try.func8, Try.ntmps8
  go_wp2_with fail
  refine (HC.out _ (by repeat' (first | (with_reducible exact Below.refl _ _) | (with_reducible (refine Below.setCell ?_ ?_ _)) | (with_reducible (refine Below.alloc ?_ ?_ _)) | (with_reducible (refine Below.drew ?_)) | omega | (simp; done) | (simp; omega)))).mono ?_
  rintro e w1 ⟨rfl, hb1⟩
  have hs1 := hb1.size
  try simp at hs1
  have HB1 := Lib.hid hb1
  clear hb1
  go_wp2
  go_ret
  exact ⟨rfl, (by repeat' (first | (with_reducible exact Below.refl _ _) | (with_reducible (refine Below.setCell ?_ ?_ _)) | (with_reducible (refine Below.alloc ?_ ?_ _)) | (with_reducible (refine Below.drew ?_)) | (with_reducible (refine below_via ?_ HB1.out ?_)) | omega | (simp; done) | (simp; omega)))⟩

theorem longs_any (s : Script) (w : World) (hs : ScriptAt w s) :
    Calls Try.prog 9 #[.agg s.cells.toArray] w fun e w' => e = .returned (.bool true) ∧ Below w.heap.size w w' := by
  have HC := Lib.hid (fun W (hb : Below w.heap.size w W) => sizes_any s 8 W ⟨hs.mcap, hs.mlen, hs.mat.below hb, hs.mok, hs.llen, hs.lat.below hb, fun a ha => by
    obtain ⟨h1, h2, h3, h4, h5, h6, h7⟩ := hs.lok a ha
    exact ⟨h1, h2, h3, h4, h5, h6.below hb, h7⟩⟩ (by omega))
  obtain ⟨ma, mc, ws0, la, lc, acts⟩ := s
  simp only [Script.cells] at *
  clear hs
  go_enter Try.func9, Try.ntmps9
  go_wp2_with fail
  refine (HC.out _ (by repeat' (first | (with_reducible exact Below.refl _ _) | (with_reducible (refine Below.setCell ?_ ?_ _)) | (with_reducible (refine Below.alloc ?_ ?_ _)) | (with_reducible (refine Below.drew ?_)) | omega | (simp; done) | (simp; omega)))).mono ?_
  rintro e w1 ⟨rfl, hb1⟩
  have hs1 := hb1.size
  try simp at hs1
  have HB1 := Lib.hid hb1
  clear hb1
  go_wp2
  go_ret
  exact ⟨rfl, (by repeat' (first | (with_reducible exact Below.refl _ _) | (with_reducible (refine Below.setCell ?_ ?_ _)) | (with_reducible (refine Below.alloc ?_ ?_ _)) | (with_reducible (refine Below.drew ?_)) | (with_reducible (refine below_via ?_ HB1.out ?_)) | omega | (simp; done) | (simp; omega)))⟩

end Go.Proofs.Ytipepkmmjdlpoaa
