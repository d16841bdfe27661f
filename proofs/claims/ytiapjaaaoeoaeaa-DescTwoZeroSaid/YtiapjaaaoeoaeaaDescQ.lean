/-
  'DescBack' returns true, and of what was there nothing has turned. Conditions: the asks read as such.
-/
import Derived.Test.YtiapjaaaoeoaeaaDescP
import Derived.Test.YtiapjaaaoeoaeaaWithin
import Derived.Laws.Closers25b
namespace Go.Proofs.Ytiapjaaaoeoaeaa
open Go.RowKit

theorem place_of {s l : Int} (h0 : 0 ≤ s) (h1 : s < 2) (h2 : 0 ≤ l) (h3 : l < 4) : placeOk (1 + s) l = true := by
  have : s = 0 ∨ s = 1 := by omega
  unfold placeOk
  rcases this with rfl | rfl <;> simp <;> omega

theorem xor_ne (y k : Int) (hy : 0 ≤ y ∧ y ≤ 18446744073709551615) (h0 : 0 ≤ k) (h1 : k < 64) : bits .xor .u64 y (IntKind.u64.wrap (2 ^ k.toNat)) ≠ y := by
  obtain ⟨n, rfl⟩ := Int.eq_ofNat_of_zero_le h0
  obtain ⟨Y, rfl⟩ := Int.eq_ofNat_of_zero_le hy.1
  have h2 : 2 ^ n < 18446744073709551616 := Nat.pow_lt_pow_right (show 1 < 2 by decide) (show n < 64 by omega)
  have hw : ∀ m : Nat, m < 18446744073709551616 → IntKind.u64.wrap (m : Int) = (m : Int) := fun m hm => by rw [IntKind.wrap_u64]; omega
  have e : IntKind.u64.wrap ((2 : Int) ^ ((n : Int)).toNat) = ((2 ^ n : Nat) : Int) := by
    rw [Int.toNat_natCast, show ((2 : Int) ^ n) = ((2 ^ n : Nat) : Int) by simp]
    exact hw _ h2
  rw [e, u64_xor_nat _ _ (by omega) h2]
  intro h
  have h3 : Y ^^^ 2 ^ n = Y := by omega
  have h4 := congrArg (fun x => Nat.testBit x n) h3
  simp [Nat.testBit_xor, Nat.testBit_two_pow_self] at h4

set_option maxRecDepth 100000 in
set_option maxHeartbeats 8000000 in
theorem descBack_walk (s : Sl AskD) (w : World) (hs : AsksAt w s) :
    Calls Try.prog 5 #[.slice s.addr s.list.length s.cap] w fun e w' => e = .returned (.bool true) ∧ Below w.heap.size w w' := by
  obtain ⟨hn, hA, hok⟩ := hs
  obtain ⟨A, c, asks⟩ := s
  dsimp only at *
  have HA := Lib.hid hA
  have HQ := Lib.hid hok
  have HNU := Lib.hid (fun n W => dnum_any n W)
  clear hA hok
  go_enter Try.func5, Try.ntmps5
  go_wp2
  go_loopw [3] (fun i wr => ∃ k : Nat, k ≤ asks.length ∧ i = .int .i64 k ∧ Below w.heap.size w wr) (fun i _ => asks.length - (intOf i).toNat)
  case atStart => exact ⟨0, Nat.zero_le _, rfl, Below.refl _ _⟩
  case round =>
    obtain ⟨k, hk, rfl, hb⟩ := hrel
    have HB := Lib.hid hb
    by_cases hlt : k < asks.length ∧ k < 12
    · obtain ⟨hlt, h12⟩ := hlt
      have q12 : decide ((k : Int) < 12) = true := by simp; omega
      have hki : (k : Int) < asks.length := by omega
      have hki0 : (0 : Int) ≤ (k : Int) := by omega
      obtain ⟨b, off, rfl, hbl, hc⟩ := askd_cells HA.out hb hlt
      have hqo := HQ.out asks[k] (List.getElem_mem hlt)
      have hbr : b < wr.heap.size := by have := hb.size; omega
      have hsw := hb.size
      clear hb
      generalize asks[k] = q at *
      have c0 := hc 0 _ rfl
      have c1 := hc 1 _ rfl
      have c3 := hc 3 _ rfl
      have c4 := hc 4 _ rfl
      have c5 := hc 5 _ rfl
      have c6 := hc 6 _ rfl
      have c7 := hc 7 _ rfl
      have c8 := hc 8 _ rfl
      have c9 := hc 9 _ rfl
      have c10 := hc 10 _ rfl
      have c11 := hc 11 _ rfl
      simp only [Nat.add_zero] at c0
      obtain ⟨qs, qe, qp, d, qx⟩ := q
      obtain ⟨kind, frame, r, dw, dx, af, ng, soft, note⟩ := d
      clear hc
      dsimp only at c0 c1 c3 c4 c5 c6 c7 c8 c9 c10 c11
      have HW1 := Lib.hid (fun W => within_any qs 2 W (by omega) (by omega) hqo.1)
      have HW2 := Lib.hid (fun W => within_any qe 4 W (by omega) (by omega) hqo.2.1)
      have hl1 := within_lt qs 2 (by omega)
      have hl2 := within_lt qe 4 (by omega)
      clear hqo
      generalize withinOf qs 2 = ws at *
      generalize withinOf qe 4 = lv at *
      have hp := place_of hl1.1 hl1.2 hl2.1 hl2.2
      have hu : IntKind.i64.wrap (1 + ws) = 1 + ws := IntWalk.i64_in _ (by omega)
      generalize hst : 1 + ws = st at *
      go_wp2_with fail
      refine wp_region_class (fun w' => Below (wr.heap.size) (wr) w') (by kernel_rfl) (by kernel_rfl) (Below.refl _ _).drew ?_
      repeat (first
        | (refine wpLex_pass (by rfl) passes_plain ?_; (conv => arg 9; simp only [put_lit, put_lit_none, List.set]))
        | (refine wpLex_plain (by rfl) ?_
           apply Exists.intro
           refine ⟨?_, ?_⟩
           · intro w' hb
             have hsz := hb.size
             try simp at hsz
             have hcw := fun b o (h : b < wr.heap.size) => hb.cell (p := ⟨b, o, none⟩) h
             have hfw := fun b o (h : b < wr.heap.size) => hb.frozen (p := ⟨b, o, none⟩) h
             go_simp
             first
               | exact ⟨rfl, hb⟩
               | exact rfl
               | ((with_reducible refine Calls.mono (HW1.out _) ?_); rintro e w2 ⟨rfl, rfl⟩; exact ⟨_, rfl, rfl, hb⟩)
               | ((with_reducible refine Calls.mono (HW2.out _) ?_); rintro e w2 ⟨rfl, rfl⟩; exact ⟨_, rfl, rfl, hb⟩)
           conv => arg 9; simp only [put_lit, put_lit_none, List.set]))
      refine wpLex_nil ?_
      intro wp hbp
      have hsp := hbp.size
      try simp at hsp
      have hcp := fun b o (h : b < wr.heap.size) => hbp.cell (p := ⟨b, o, none⟩) h
      have hfp := fun b o (h : b < wr.heap.size) => hbp.frozen (p := ⟨b, o, none⟩) h
      have HBp := Lib.hid hbp
      clear hbp
      clear hu hst
      cases hm : mayDe st lv ⟨kind, frame, r, dw, dx, af, ng, soft, note⟩
      · have HW := Lib.hid (fun W => word_no (d := ⟨kind, frame, r, dw, dx, af, ng, soft, note⟩) (show checkDe st lv _ = false by unfold checkDe; rw [hm]; simp) W)
        dsimp only [De.cells] at HW
        clear hm hp
        go_wp2_with fail
        refine Calls.mono (HW.out _) ?_
        rintro e w3 ⟨rfl, hb3⟩
        have hs3 := hb3.size
        try simp at hs3
        have HB3 := Lib.hid hb3
        clear hb3
        go_wp2_with (go_at_call 18; refine (HNU.out _ _).mono ?_; rintro e w3 ⟨rfl, rfl⟩)
        go_roundw
        case rel => exact ⟨k + 1, by omega, by go_num, (by repeat' (first | (with_reducible exact Below.refl _ _) | (with_reducible (refine Below.setCell ?_ ?_ _)) | (with_reducible (refine Below.alloc ?_ ?_ _)) | (with_reducible (refine Below.drew ?_)) | (with_reducible (refine below_via ?_ HB3.out ?_)) | (with_reducible (refine below_via ?_ HBp.out ?_)) | (with_reducible (refine below_via ?_ HB.out ?_)) | omega | (simp; done) | (simp; omega)))⟩
        case measure => simp [intOf]; omega
      · have HW := Lib.hid (fun W => word_yes (d := ⟨kind, frame, r, dw, dx, af, ng, soft, note⟩) (show checkDe st lv _ = true by unfold checkDe; rw [hp, hm]; rfl) W)
        have hwr := word_range hm
        have how := of_word hm (placeOk_level hp).1 (placeOk_level hp).2
        have HO := Lib.hid (fun W => of_yes st lv (wordDe st lv ⟨kind, frame, r, dw, dx, af, ng, soft, note⟩) hwr hp W)
        rw [how] at HO
        have HOA := Lib.hid (fun z W hz => of_yes st lv z hz hp W)
        have HWA := Lib.hid (fun x (hx : mayDe st lv x = true) W => word_yes (d := x) (show checkDe st lv x = true by unfold checkDe; rw [hp, hx]; rfl) W)
        have HY := Lib.hid (rfl : wordDe st lv ⟨kind, frame, r, dw, dx, af, ng, soft, note⟩ = wordDe st lv ⟨kind, frame, r, dw, dx, af, ng, soft, note⟩)
        unfold OfPost deV at HO HOA
        dsimp only [De.cells] at HW HO HOA HWA
        clear hm how
        generalize hyy : wordDe st lv ⟨kind, frame, r, dw, dx, af, ng, soft, note⟩ = y at *
        have HYY := Lib.hid hyy
        clear hyy HY
        go_wp2_with fail
        refine Calls.mono (HW.out _) ?_
        rintro e w3 ⟨rfl, hb3⟩
        have hs3 := hb3.size
        try simp at hs3
        have hc3_0 := fun o => (bcell hb3).1 (b) o (by first | omega | (simp; done) | (simp; omega))
        have hf3_0 := fun o => (bcell hb3).2.1 (b) o (by first | omega | (simp; done) | (simp; omega))
        have hz3_0 := (bcell hb3).2.2 (b) (by first | omega | (simp; done) | (simp; omega))
        have HB3 := Lib.hid hb3
        clear hb3
        go_wp2_with fail
        refine Calls.mono (HNU.out _ _) ?_
        rintro e w3 ⟨rfl, rfl⟩
        go_wp2_with fail
        refine Calls.mono (HO.out _) ?_
        rintro e w4 ⟨rfl, hb4⟩
        have hs4 := hb4.size
        try simp at hs4
        have hc4_0 := fun o => (bcell hb4).1 (b) o (by first | omega | (simp; done) | (simp; omega))
        have hf4_0 := fun o => (bcell hb4).2.1 (b) o (by first | omega | (simp; done) | (simp; omega))
        have hz4_0 := (bcell hb4).2.2 (b) (by first | omega | (simp; done) | (simp; omega))
        have HB4 := Lib.hid hb4
        clear hb4
        go_wp2_with fail
        have hb4 : b < w4.heap.size + 1 := by omega
        refine wp_region_class (fun w' => Below (w4.heap.size + 1) (w4.alloc (.cells #[.int .i64 kind, .int .i64 frame, .bool r, .bool dw, .bool dx, .bool af, .bool ng, .int .i64 soft, .int .i64 note] descT)) w') (by kernel_rfl) (by kernel_rfl) (Below.refl _ _).drew ?_
        repeat (first
          | (refine wpLex_pass (by rfl) passes_plain ?_; (conv => arg 9; simp only [put_lit, put_lit_none, List.set]))
          | (refine wpLex_plain (by rfl) ?_
             apply Exists.intro
             refine ⟨?_, ?_⟩
             · intro w' hb
               have hsz := hb.size
               try simp at hsz
               have hcw := fun b o (h : b < w4.heap.size + 1) => hb.cell (p := ⟨b, o, none⟩) h
               have hfw := fun b o (h : b < w4.heap.size + 1) => hb.frozen (p := ⟨b, o, none⟩) h
               go_simp
               first
                 | exact ⟨rfl, hb⟩
                 | exact rfl
                 | ((with_reducible refine Calls.mono (HNU.out _ _) ?_); rintro e w2 ⟨rfl, rfl⟩; exact ⟨_, rfl, rfl, hb⟩)
             conv => arg 9; simp only [put_lit, put_lit_none, List.set]))
        refine wpLex_nil ?_
        intro wq hbq
        have hsq := hbq.size
        try simp at hsq
        have hcq := fun b o (h : b < w4.heap.size + 1) => hbq.cell (p := ⟨b, o, none⟩) h
        have hfq := fun b o (h : b < w4.heap.size + 1) => hbq.frozen (p := ⟨b, o, none⟩) h
        have HBq := Lib.hid hbq
        clear hbq
        go_wp2_with fail
        have hxq := (HBq.out.block w4.heap.size (by simp)).trans (heap_new _ _)
        have HXQ := Lib.hid hxq
        have HBW := Lib.hid (show Below w.heap.size w wq from (by repeat' (first | (with_reducible exact Below.refl _ _) | (with_reducible (refine Below.setCell ?_ ?_ _)) | (with_reducible (refine Below.alloc ?_ ?_ _)) | (with_reducible (refine Below.drew ?_)) | (with_reducible (refine below_via ?_ HBq.out ?_)) | (with_reducible (refine below_via ?_ HB4.out ?_)) | (with_reducible (refine below_via ?_ HB3.out ?_)) | (with_reducible (refine below_via ?_ HBp.out ?_)) | (with_reducible (refine below_via ?_ HB.out ?_)) | omega | (simp; done) | (simp; omega))))
        have hlq := heap_lt hxq
        clear hxq hcq hfq hc4_0 hf4_0 hc3_0 hf3_0 hcp hfp c0 c1 c3 c4 c5 c6 c7 c8 c9 c10 c11
        go_loopw [10] (fun i wr => ∃ kk : Int, 0 ≤ kk ∧ kk ≤ 64 ∧ i = .int .i64 kk ∧ Below w.heap.size w wr ∧ w4.heap.size < wr.heap.size ∧ wr.heap[w4.heap.size]? = some (.cells #[.int .i64 kind, .int .i64 frame, .bool r, .bool dw, .bool dx, .bool af, .bool ng, .int .i64 soft, .int .i64 note] descT (0, 0))) (fun i _ => (64 - intOf i).toNat)
        case atStart => exact ⟨0, by omega, by omega, rfl, HBW.out, hlq, HXQ.out⟩
        case round =>
          obtain ⟨kk, hk0, hk1, rfl, hb5, hs5, hx5⟩ := hrel
          have HB5 := Lib.hid hb5
          have HX5 := Lib.hid hx5
          have hsw5 := hb5.size
          by_cases hlk : kk < 64
          · have cq := fun j => cell_of_row _ _ j _ _ _ hx5
            clear hb5 hx5
            obtain ⟨z, hz⟩ : ∃ z, bits .xor .u64 y (IntKind.u64.wrap (2 ^ kk.toNat)) = z := ⟨_, rfl⟩
            have HYZ := Lib.hid (show y ≠ z from fun e => xor_ne y kk hwr hk0 hlk (hz.trans e.symm))
            have HO1 := Lib.hid (fun W => HOA.out z W (by rw [← hz]; exact ⟨bits_lo_u64 _ _ _, bits_hi_u64 _ _ _⟩))
            have hx := of_back st lv z
            generalize ofDe st lv z = x at *
            have HW1 := Lib.hid (fun W => HWA.out x hx.1 W)
            have HF1 := Lib.hid (show deEq x ⟨kind, frame, r, dw, dx, af, ng, soft, note⟩ = true → deEq x noDe = true from fun h => by
              rw [deEq_iff] at h ⊢
              rcases hx.2 with h2 | h2
              · exact h2
              · rw [h, HYY.out] at h2; exact absurd h2 HYZ.out)
            have HF2 := Lib.hid (show (wordDe st lv x != z) = true → deEq x noDe = true from fun h => by
              rw [deEq_iff]
              rcases hx.2 with h2 | h2
              · exact h2
              · rw [h2] at h; simp at h)
            clear hx
            generalize wordDe st lv x = v at *
            obtain ⟨x0, x1, x2, x3, x4, x5, x6, x7, x8⟩ := x
            have he1 := fun W => run_eql_de x0 x1 x2 x3 x4 x5 x6 x7 x8 kind frame r dw dx af ng soft note W
            have he2 := fun W => run_neq_de x0 x1 x2 x3 x4 x5 x6 x7 x8 0 0 false false false false false 0 0 W
            unfold noDe at HF1 HF2
            generalize deEq _ ⟨kind, frame, r, dw, dx, af, ng, soft, note⟩ = e1 at *
            generalize deEq _ ⟨0, 0, false, false, false, false, false, 0, 0⟩ = e2 at *
            dsimp only at HO1 HW1
            generalize hbz : (v != z) = bz at *
            have hF1 := HF1.out
            have hF2 := HF2.out
            clear HF1 HF2 HYZ
            cases e2
            · have h1 : e1 = false := by cases e1 <;> simp_all
              have h2 : bz = false := by cases bz <;> simp_all
              subst h1 h2
              clear hF1 hF2
              go_wp2_with fail
              refine Calls.mono (HO1.out _) ?_
              rintro e w6 ⟨rfl, hb6⟩
              have hs6 := hb6.size
              try simp at hs6
              have hc6_0 := fun o => (bcell hb6).1 (w4.heap.size) o (by first | omega | (simp; done) | (simp; omega))
              have hf6_0 := fun o => (bcell hb6).2.1 (w4.heap.size) o (by first | omega | (simp; done) | (simp; omega))
              have hz6_0 := (bcell hb6).2.2 (w4.heap.size) (by first | omega | (simp; done) | (simp; omega))
              have HB6 := Lib.hid hb6
              clear hb6
              go_wp2_with fail
              refine Calls.mono (HNU.out _ _) ?_
              rintro e w6 ⟨rfl, rfl⟩
              have hz6 : w6.heap.size < w6.heap.size + 1 := by omega
              go_wp2_with fail
              refine Calls.mono (HW1.out _) ?_
              rintro e w7 ⟨rfl, hb7⟩
              have hs7 := hb7.size
              try simp at hs7
              have hc7_0 := fun o => (bcell hb7).1 (w4.heap.size) o (by first | omega | (simp; done) | (simp; omega))
              have hf7_0 := fun o => (bcell hb7).2.1 (w4.heap.size) o (by first | omega | (simp; done) | (simp; omega))
              have hz7_0 := (bcell hb7).2.2 (w4.heap.size) (by first | omega | (simp; done) | (simp; omega))
              have hc7_1 := fun o => (bcell hb7).1 (w6.heap.size) o (by first | omega | (simp; done) | (simp; omega))
              have hf7_1 := fun o => (bcell hb7).2.1 (w6.heap.size) o (by first | omega | (simp; done) | (simp; omega))
              have hz7_1 := (bcell hb7).2.2 (w6.heap.size) (by first | omega | (simp; done) | (simp; omega))
              have HB7 := Lib.hid hb7
              clear hb7
              go_wp2_with fail
              refine Calls.mono (HNU.out _ _) ?_
              rintro e w7 ⟨rfl, rfl⟩
              go_wp2_with fail
              go_roundw
              case rel => exact ⟨kk + 1, by omega, by omega, rfl, (by repeat' (first | (with_reducible exact Below.refl _ _) | (with_reducible (refine Below.setCell ?_ ?_ _)) | (with_reducible (refine Below.alloc ?_ ?_ _)) | (with_reducible (refine Below.drew ?_)) | (with_reducible (refine below_via ?_ HB7.out ?_)) | (with_reducible (refine below_via ?_ HB6.out ?_)) | (with_reducible (refine below_via ?_ HB5.out ?_)) | omega | (simp; done) | (simp; omega))), by omega, (by repeat (first | (with_reducible assumption) | (with_reducible exact HX5.out) | (with_reducible refine heap_below_is HB7.out (by (first | omega | (simp; done) | (simp; omega))) ?_) | (with_reducible refine heap_below_is HB6.out (by (first | omega | (simp; done) | (simp; omega))) ?_) | (exact heap_at _ _ (by simp; done)) | (with_reducible refine heap_old_is _ _ (by (first | omega | (simp; done) | (simp; omega))) ?_) | (with_reducible refine heap_far_is (by (first | omega | (simp; done) | (simp; omega))) ?_)))⟩
              case measure => simp [intOf]; omega
            · clear hF1 hF2
              cases e1
              · cases bz
                · skip
                  go_wp2_with fail
                  refine Calls.mono (HO1.out _) ?_
                  rintro e w6 ⟨rfl, hb6⟩
                  have hs6 := hb6.size
                  try simp at hs6
                  have hc6_0 := fun o => (bcell hb6).1 (w4.heap.size) o (by first | omega | (simp; done) | (simp; omega))
                  have hf6_0 := fun o => (bcell hb6).2.1 (w4.heap.size) o (by first | omega | (simp; done) | (simp; omega))
                  have hz6_0 := (bcell hb6).2.2 (w4.heap.size) (by first | omega | (simp; done) | (simp; omega))
                  have HB6 := Lib.hid hb6
                  clear hb6
                  go_wp2_with fail
                  refine Calls.mono (HNU.out _ _) ?_
                  rintro e w6 ⟨rfl, rfl⟩
                  have hz6 : w6.heap.size < w6.heap.size + 1 := by omega
                  go_wp2_with fail
                  refine Calls.mono (HW1.out _) ?_
                  rintro e w7 ⟨rfl, hb7⟩
                  have hs7 := hb7.size
                  try simp at hs7
                  have hc7_0 := fun o => (bcell hb7).1 (w4.heap.size) o (by first | omega | (simp; done) | (simp; omega))
                  have hf7_0 := fun o => (bcell hb7).2.1 (w4.heap.size) o (by first | omega | (simp; done) | (simp; omega))
                  have hz7_0 := (bcell hb7).2.2 (w4.heap.size) (by first | omega | (simp; done) | (simp; omega))
                  have hc7_1 := fun o => (bcell hb7).1 (w6.heap.size) o (by first | omega | (simp; done) | (simp; omega))
                  have hf7_1 := fun o => (bcell hb7).2.1 (w6.heap.size) o (by first | omega | (simp; done) | (simp; omega))
                  have hz7_1 := (bcell hb7).2.2 (w6.heap.size) (by first | omega | (simp; done) | (simp; omega))
                  have HB7 := Lib.hid hb7
                  clear hb7
                  go_wp2_with fail
                  refine Calls.mono (HNU.out _ _) ?_
                  rintro e w7 ⟨rfl, rfl⟩
                  go_wp2_with fail
                  go_roundw
                  case rel => exact ⟨kk + 1, by omega, by omega, rfl, (by repeat' (first | (with_reducible exact Below.refl _ _) | (with_reducible (refine Below.setCell ?_ ?_ _)) | (with_reducible (refine Below.alloc ?_ ?_ _)) | (with_reducible (refine Below.drew ?_)) | (with_reducible (refine below_via ?_ HB7.out ?_)) | (with_reducible (refine below_via ?_ HB6.out ?_)) | (with_reducible (refine below_via ?_ HB5.out ?_)) | omega | (simp; done) | (simp; omega))), by omega, (by repeat (first | (with_reducible assumption) | (with_reducible exact HX5.out) | (with_reducible refine heap_below_is HB7.out (by (first | omega | (simp; done) | (simp; omega))) ?_) | (with_reducible refine heap_below_is HB6.out (by (first | omega | (simp; done) | (simp; omega))) ?_) | (exact heap_at _ _ (by simp; done)) | (with_reducible refine heap_old_is _ _ (by (first | omega | (simp; done) | (simp; omega))) ?_) | (with_reducible refine heap_far_is (by (first | omega | (simp; done) | (simp; omega))) ?_)))⟩
                  case measure => simp [intOf]; omega
                · skip
                  go_wp2_with fail
                  refine Calls.mono (HO1.out _) ?_
                  rintro e w6 ⟨rfl, hb6⟩
                  have hs6 := hb6.size
                  try simp at hs6
                  have hc6_0 := fun o => (bcell hb6).1 (w4.heap.size) o (by first | omega | (simp; done) | (simp; omega))
                  have hf6_0 := fun o => (bcell hb6).2.1 (w4.heap.size) o (by first | omega | (simp; done) | (simp; omega))
                  have hz6_0 := (bcell hb6).2.2 (w4.heap.size) (by first | omega | (simp; done) | (simp; omega))
                  have HB6 := Lib.hid hb6
                  clear hb6
                  go_wp2_with fail
                  refine Calls.mono (HNU.out _ _) ?_
                  rintro e w6 ⟨rfl, rfl⟩
                  have hz6 : w6.heap.size < w6.heap.size + 1 := by omega
                  go_wp2_with fail
                  refine Calls.mono (HW1.out _) ?_
                  rintro e w7 ⟨rfl, hb7⟩
                  have hs7 := hb7.size
                  try simp at hs7
                  have hc7_0 := fun o => (bcell hb7).1 (w4.heap.size) o (by first | omega | (simp; done) | (simp; omega))
                  have hf7_0 := fun o => (bcell hb7).2.1 (w4.heap.size) o (by first | omega | (simp; done) | (simp; omega))
                  have hz7_0 := (bcell hb7).2.2 (w4.heap.size) (by first | omega | (simp; done) | (simp; omega))
                  have hc7_1 := fun o => (bcell hb7).1 (w6.heap.size) o (by first | omega | (simp; done) | (simp; omega))
                  have hf7_1 := fun o => (bcell hb7).2.1 (w6.heap.size) o (by first | omega | (simp; done) | (simp; omega))
                  have hz7_1 := (bcell hb7).2.2 (w6.heap.size) (by first | omega | (simp; done) | (simp; omega))
                  have HB7 := Lib.hid hb7
                  clear hb7
                  go_wp2_with fail
                  refine Calls.mono (HNU.out _ _) ?_
                  rintro e w7 ⟨rfl, rfl⟩
                  go_wp2_with fail
                  go_roundw
                  case rel => exact ⟨kk + 1, by omega, by omega, rfl, (by repeat' (first | (with_reducible exact Below.refl _ _) | (with_reducible (refine Below.setCell ?_ ?_ _)) | (with_reducible (refine Below.alloc ?_ ?_ _)) | (with_reducible (refine Below.drew ?_)) | (with_reducible (refine below_via ?_ HB7.out ?_)) | (with_reducible (refine below_via ?_ HB6.out ?_)) | (with_reducible (refine below_via ?_ HB5.out ?_)) | omega | (simp; done) | (simp; omega))), by omega, (by repeat (first | (with_reducible assumption) | (with_reducible exact HX5.out) | (with_reducible refine heap_below_is HB7.out (by (first | omega | (simp; done) | (simp; omega))) ?_) | (with_reducible refine heap_below_is HB6.out (by (first | omega | (simp; done) | (simp; omega))) ?_) | (exact heap_at _ _ (by simp; done)) | (with_reducible refine heap_old_is _ _ (by (first | omega | (simp; done) | (simp; omega))) ?_) | (with_reducible refine heap_far_is (by (first | omega | (simp; done) | (simp; omega))) ?_)))⟩
                  case measure => simp [intOf]; omega
              · cases bz
                · skip
                  go_wp2_with fail
                  refine Calls.mono (HO1.out _) ?_
                  rintro e w6 ⟨rfl, hb6⟩
                  have hs6 := hb6.size
                  try simp at hs6
                  have hc6_0 := fun o => (bcell hb6).1 (w4.heap.size) o (by first | omega | (simp; done) | (simp; omega))
                  have hf6_0 := fun o => (bcell hb6).2.1 (w4.heap.size) o (by first | omega | (simp; done) | (simp; omega))
                  have hz6_0 := (bcell hb6).2.2 (w4.heap.size) (by first | omega | (simp; done) | (simp; omega))
                  have HB6 := Lib.hid hb6
                  clear hb6
                  go_wp2_with fail
                  refine Calls.mono (HNU.out _ _) ?_
                  rintro e w6 ⟨rfl, rfl⟩
                  have hz6 : w6.heap.size < w6.heap.size + 1 := by omega
                  go_wp2_with fail
                  refine Calls.mono (HW1.out _) ?_
                  rintro e w7 ⟨rfl, hb7⟩
                  have hs7 := hb7.size
                  try simp at hs7
                  have hc7_0 := fun o => (bcell hb7).1 (w4.heap.size) o (by first | omega | (simp; done) | (simp; omega))
                  have hf7_0 := fun o => (bcell hb7).2.1 (w4.heap.size) o (by first | omega | (simp; done) | (simp; omega))
                  have hz7_0 := (bcell hb7).2.2 (w4.heap.size) (by first | omega | (simp; done) | (simp; omega))
                  have hc7_1 := fun o => (bcell hb7).1 (w6.heap.size) o (by first | omega | (simp; done) | (simp; omega))
                  have hf7_1 := fun o => (bcell hb7).2.1 (w6.heap.size) o (by first | omega | (simp; done) | (simp; omega))
                  have hz7_1 := (bcell hb7).2.2 (w6.heap.size) (by first | omega | (simp; done) | (simp; omega))
                  have HB7 := Lib.hid hb7
                  clear hb7
                  go_wp2_with fail
                  refine Calls.mono (HNU.out _ _) ?_
                  rintro e w7 ⟨rfl, rfl⟩
                  go_wp2_with fail
                  go_roundw
                  case rel => exact ⟨kk + 1, by omega, by omega, rfl, (by repeat' (first | (with_reducible exact Below.refl _ _) | (with_reducible (refine Below.setCell ?_ ?_ _)) | (with_reducible (refine Below.alloc ?_ ?_ _)) | (with_reducible (refine Below.drew ?_)) | (with_reducible (refine below_via ?_ HB7.out ?_)) | (with_reducible (refine below_via ?_ HB6.out ?_)) | (with_reducible (refine below_via ?_ HB5.out ?_)) | omega | (simp; done) | (simp; omega))), by omega, (by repeat (first | (with_reducible assumption) | (with_reducible exact HX5.out) | (with_reducible refine heap_below_is HB7.out (by (first | omega | (simp; done) | (simp; omega))) ?_) | (with_reducible refine heap_below_is HB6.out (by (first | omega | (simp; done) | (simp; omega))) ?_) | (exact heap_at _ _ (by simp; done)) | (with_reducible refine heap_old_is _ _ (by (first | omega | (simp; done) | (simp; omega))) ?_) | (with_reducible refine heap_far_is (by (first | omega | (simp; done) | (simp; omega))) ?_)))⟩
                  case measure => simp [intOf]; omega
                · skip
                  go_wp2_with fail
                  refine Calls.mono (HO1.out _) ?_
                  rintro e w6 ⟨rfl, hb6⟩
                  have hs6 := hb6.size
                  try simp at hs6
                  have hc6_0 := fun o => (bcell hb6).1 (w4.heap.size) o (by first | omega | (simp; done) | (simp; omega))
                  have hf6_0 := fun o => (bcell hb6).2.1 (w4.heap.size) o (by first | omega | (simp; done) | (simp; omega))
                  have hz6_0 := (bcell hb6).2.2 (w4.heap.size) (by first | omega | (simp; done) | (simp; omega))
                  have HB6 := Lib.hid hb6
                  clear hb6
                  go_wp2_with fail
                  refine Calls.mono (HNU.out _ _) ?_
                  rintro e w6 ⟨rfl, rfl⟩
                  have hz6 : w6.heap.size < w6.heap.size + 1 := by omega
                  go_wp2_with fail
                  refine Calls.mono (HW1.out _) ?_
                  rintro e w7 ⟨rfl, hb7⟩
                  have hs7 := hb7.size
                  try simp at hs7
                  have hc7_0 := fun o => (bcell hb7).1 (w4.heap.size) o (by first | omega | (simp; done) | (simp; omega))
                  have hf7_0 := fun o => (bcell hb7).2.1 (w4.heap.size) o (by first | omega | (simp; done) | (simp; omega))
                  have hz7_0 := (bcell hb7).2.2 (w4.heap.size) (by first | omega | (simp; done) | (simp; omega))
                  have hc7_1 := fun o => (bcell hb7).1 (w6.heap.size) o (by first | omega | (simp; done) | (simp; omega))
                  have hf7_1 := fun o => (bcell hb7).2.1 (w6.heap.size) o (by first | omega | (simp; done) | (simp; omega))
                  have hz7_1 := (bcell hb7).2.2 (w6.heap.size) (by first | omega | (simp; done) | (simp; omega))
                  have HB7 := Lib.hid hb7
                  clear hb7
                  go_wp2_with fail
                  refine Calls.mono (HNU.out _ _) ?_
                  rintro e w7 ⟨rfl, rfl⟩
                  go_wp2_with fail
                  go_roundw
                  case rel => exact ⟨kk + 1, by omega, by omega, rfl, (by repeat' (first | (with_reducible exact Below.refl _ _) | (with_reducible (refine Below.setCell ?_ ?_ _)) | (with_reducible (refine Below.alloc ?_ ?_ _)) | (with_reducible (refine Below.drew ?_)) | (with_reducible (refine below_via ?_ HB7.out ?_)) | (with_reducible (refine below_via ?_ HB6.out ?_)) | (with_reducible (refine below_via ?_ HB5.out ?_)) | omega | (simp; done) | (simp; omega))), by omega, (by repeat (first | (with_reducible assumption) | (with_reducible exact HX5.out) | (with_reducible refine heap_below_is HB7.out (by (first | omega | (simp; done) | (simp; omega))) ?_) | (with_reducible refine heap_below_is HB6.out (by (first | omega | (simp; done) | (simp; omega))) ?_) | (exact heap_at _ _ (by simp; done)) | (with_reducible refine heap_old_is _ _ (by (first | omega | (simp; done) | (simp; omega))) ?_) | (with_reducible refine heap_far_is (by (first | omega | (simp; done) | (simp; omega))) ?_)))⟩
                  case measure => simp [intOf]; omega

          · clear hb5 hx5
            go_wp2
            go_roundw
            case rel => exact ⟨k + 1, by omega, by go_num, HB5.out⟩
            case measure => simp [intOf]; omega
    · have hno : ¬ (k < asks.length ∧ k < 12) := hlt
      by_cases h1 : k < asks.length
      · have h2 : ¬ k < 12 := fun h => hno ⟨h1, h⟩
        clear hno hlt
        go_wp2_with (go_at_call 26; refine (wakes_any _).mono ?_; rintro e w1 ⟨rfl, hb1⟩; have HB1 := Lib.hid hb1; clear hb1)
        go_ret
        exact ⟨rfl, below_call HB.out HB1.out HB.out.size⟩
      · clear hno hlt
        go_wp2_with (go_at_call 26; refine (wakes_any _).mono ?_; rintro e w1 ⟨rfl, hb1⟩; have HB1 := Lib.hid hb1; clear hb1)
        go_ret
        exact ⟨rfl, below_call HB.out HB1.out HB.out.size⟩

end Go.Proofs.Ytiapjaaaoeoaeaa
