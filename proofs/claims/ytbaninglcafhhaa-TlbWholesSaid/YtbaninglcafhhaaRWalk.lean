/-
  The deepest table that is remembered: the page's search. Conditions: it reads; the entries may be.
-/
import Derived.Test.YtbaninglcafhhaaWalkP
import Derived.Test.YtbaninglcafhhaaPut
namespace Go.Proofs.Ytbaninglcafhhaa
open Go.RowKit

theorem at_stay {es : List Ent} {p : Ent → Bool} {k : Nat} (hk : k < es.length) {e : Ent} (he : es[k] = e) (h : (p e && decide ((bestN es p k).level < e.level)) = false) : atN es p (k + 1) = atN es p k := by
  unfold atN; rw [place_step hk he, h]; rfl
theorem at_take {es : List Ent} {p : Ent → Bool} {k : Nat} (hk : k < es.length) {e : Ent} (he : es[k] = e) (h : (p e && decide ((bestN es p k).level < e.level)) = true) : atN es p (k + 1) = k := by
  unfold atN; rw [place_step hk he, h]; rfl

set_option maxRecDepth 100000 in
set_option maxHeartbeats 8000000 in
theorem rWalk_any (t : Tl) (vmid asid page : Int) (w : World) (h : TlAt w t) (hok : ∀ e ∈ t.es, entOk e = true) (hpg : 0 ≤ page ∧ page ≤ 4095) :
    Calls Try.prog 60 #[.agg t.cells.toArray, .int .i64 vmid, .int .i64 asid, .int .i64 page] w fun y w' => y = .returned (.int .i64 (atN t.es (fun e => ofE e 3 vmid asid page) t.es.length)) ∧ Below w.heap.size w w' := by
  have HE := Lib.hid h.eat
  have hel := h.elen
  have HLV := Lib.hid (show ∀ e ∈ t.es, ofE e 3 vmid asid page = true → 1 ≤ e.level from fun e he hp => by
    have h1 := (entOk_parts (hok e he)).2.2.1
    unfold ofE at hp
    simp only [Bool.and_eq_true, beq_iff_eq] at hp
    exact (h1 hp.1).1)
  have HOK := Lib.hid hok
  obtain ⟨p, hp⟩ : ∃ p : Ent → Bool, p = fun e => ofE e 3 vmid asid page := ⟨_, rfl⟩
  rw [← hp]
  have HP := Lib.hid (fun e => congrFun hp e)
  have HLP := Lib.hid (show ∀ e ∈ t.es, p e = true → 1 ≤ e.level from fun e he h1 => HLV.out e he (by rw [← HP.out e]; exact h1))
  have HPB := Lib.hid (place_best t.es p HLP.out)
  obtain ⟨ea, ec, es, da, dc, ds⟩ := t
  dsimp only [Tl.cells] at *
  have HPG := Lib.hid hpg
  clear h hp hok hpg
  go_enter Try.func60, Try.ntmps60
  go_wp2_with fail
  refine name_world ?_
  intro wo hwo
  have HXO := Lib.hid (show wo.heap[w.heap.size]? = some (.cells #[.slice ea es.length ec, .slice da ds.length dc] tlbT (0, 0)) by rw [hwo]; exact heap_new _ _)
  have HBX := Lib.hid (show Below w.heap.size w wo by rw [hwo]; repeat' (first | (with_reducible exact Below.refl _ _) | (with_reducible (refine Below.setCell ?_ ?_ _)) | (with_reducible (refine Below.alloc ?_ ?_ _)) | (with_reducible (refine Below.drew ?_)) | omega | (simp; done) | (simp; omega)))
  have hso : w.heap.size < wo.heap.size := by rw [hwo]; simp
  clear hwo
  go_loopw [9, 10] (fun v i wr => ∃ k : Nat, k ≤ es.length ∧ i = .int .i64 k ∧ v = .int .i64 (atN es p k) ∧ Below wo.heap.size wo wr) (fun _ i _ => es.length - (intOf i).toNat)
  case atStart => exact ⟨0, Nat.zero_le _, rfl, rfl, Below.refl _ _⟩
  case round =>
    obtain ⟨k, hk, rfl, rfl, hbw⟩ := hrel
    have HBW := Lib.hid hbw
    have hsw := hbw.size
    have HXW := Lib.hid ((hbw.block _ hso).trans HXO.out)
    clear hbw
    have x12 := fun j => cell_of_row _ _ j _ _ _ HXW.out
    have xf12 := fun j => frozen_of_row _ _ j _ _ HXW.out
    have hxw := heap_lt HXW.out
    by_cases hlt : k < es.length
    · have hki : (k : Int) < es.length := by omega
      have HBR := Lib.hid (below_via HBX.out HBW.out (by have := HBX.out.size; omega))
      have hee := HE.out
      obtain ⟨be, oe, rfl, hbe, hcall⟩ := hee (by omega)
      have hbe2 : be < wr.heap.size := by have := HBR.out.size; omega
      have HCE := Lib.hid (fun (i : Nat) (hi : i < es.length) (j : Nat) (u : Value) (hu : (Ent.cells es[i])[j]? = some u) => (HBR.out.cell (p := ⟨be, oe + i * 14 + j, none⟩) hbe).trans (hcall i hi j u hu))
      clear hcall
      have hce := HCE.out k hlt
      have hoke := HOK.out es[k] (List.getElem_mem hlt)
      have hlpe := HLP.out es[k] (List.getElem_mem hlt)
      obtain ⟨e, hek⟩ : ∃ e, es[k] = e := ⟨_, rfl⟩
      have HTS := Lib.hid (at_stay (p := p) hlt hek)
      have HTT := Lib.hid (at_take (p := p) hlt hek)
      rw [hek] at hce hoke hlpe
      clear hek
      have HLE := Lib.hid hlpe
      have HK3 := Lib.hid (entOk_parts hoke).2.2.1
      have HOF := Lib.hid (fun W => rof_any e vmid asid W)
      have HPE := Lib.hid (HP.out e)
      have c0 := hce 0 _ rfl
      have c1 := hce 1 _ rfl
      have c2 := hce 2 _ rfl
      have c3 := hce 3 _ rfl
      have c4 := hce 4 _ rfl
      have c5 := hce 5 _ rfl
      have c6 := hce 6 _ rfl
      have c7 := hce 7 _ rfl
      have c8 := hce 8 _ rfl
      have c9 := hce 9 _ rfl
      have c10 := hce 10 _ rfl
      have c11 := hce 11 _ rfl
      have c12 := hce 12 _ rfl
      have c13 := hce 13 _ rfl
      simp only [Nat.add_zero] at c0
      clear hce hoke hlpe
      obtain ⟨o1, ho1⟩ : ∃ x, oneOf e vmid asid = x := ⟨_, rfl⟩
      rw [ho1] at HOF
      have HO1 := Lib.hid ho1
      clear ho1
      obtain ⟨a0, a1, a2, a3, a4, a5, a6, a7, a8, a9, a10, a11, a12, a13⟩ := e
      dsimp only [Ent.cells] at *
      by_cases hk1 : a0 = 3
      · subst hk1
        obtain ⟨hl1, hl3⟩ := HK3.out rfl
        have HAB := Lib.hid (fun W => above_any a5 page hl1 hl3 HPG.out.1 HPG.out.2 W)
        have HPX := Lib.hid (show p ⟨3, a1, a2, a3, a4, a5, a6, a7, a8, a9, a10, a11, a12, a13⟩ = (o1 && (a4 == cutOf page a5)) by
          rw [HPE.out, ← HO1.out]; unfold ofE oneOf pageOf; simp [Bool.and_assoc])
        clear HPE HO1
        generalize cutOf page a5 = ct at *
        cases o1
        · have HSF := Lib.hid (HTS.out (by rw [HPX.out]; rfl))
          go_wp2_with fail
          refine wp_region_class (fun w' => Below ((wr.heap.size + 1)) ((wr.alloc (.cells #[.int .i64 3, .int .i64 a1, .int .i64 a2, .bool a3, .int .i64 a4, .int .i64 a5, .int .i64 a6, .int .i64 a7, .bool a8, .bool a9, .bool a10, .bool a11, .bool a12, .int .i64 a13] entT))) w') (by kernel_rfl) (by kernel_rfl) (Below.refl _ _).drew ?_
          repeat (first
            | (refine wpLex_pass (by rfl) passes_plain ?_; (conv => arg 9; simp only [put_lit, put_lit_none, List.set]))
            | (refine wpLex_plain (by rfl) ?_
               apply Exists.intro
               refine ⟨?_, ?_⟩
               · intro w' hb
                 have hsz := hb.size
                 try simp at hsz
                 have hcw := fun b o (h : b < (wr.heap.size + 1)) => hb.cell (p := ⟨b, o, none⟩) h
                 have hfw := fun b o (h : b < (wr.heap.size + 1)) => hb.frozen (p := ⟨b, o, none⟩) h
                 go_simp
                 first
                   | exact ⟨rfl, hb⟩
                   | exact rfl
                   | ((with_reducible refine Calls.mono (HOF.out _) ?_); rintro e w2 ⟨rfl, hb2⟩; exact ⟨_, rfl, rfl, hb.trans (hb2.mono hsz)⟩)
               conv => arg 9; simp only [put_lit, put_lit_none, List.set]))
          refine wpLex_nil ?_
          intro wq hbq
          have hsq := hbq.size
          try simp at hsq
          have hcq := fun b o (h : b < (wr.heap.size + 1)) => hbq.cell (p := ⟨b, o, none⟩) h
          have hfq := fun b o (h : b < (wr.heap.size + 1)) => hbq.frozen (p := ⟨b, o, none⟩) h
          have HBq := Lib.hid hbq
          clear hbq
          go_wp2_with fail
          go_roundw
          case rel => exact ⟨k + 1, by omega, by go_num, by rw [HSF.out], (by repeat' (first | (with_reducible exact Below.refl _ _) | (with_reducible (refine Below.setCell ?_ ?_ _)) | (with_reducible (refine Below.alloc ?_ ?_ _)) | (with_reducible (refine Below.drew ?_)) | (with_reducible (refine below_via ?_ HBq.out ?_)) | (with_reducible (refine below_via ?_ HBW.out ?_)) | omega | (simp; done) | (simp; omega)))⟩
          case measure => simp [intOf]; omega
        · rcases hpg : (a4 == ct) with _ | _
          · have HSF := Lib.hid (HTS.out (by rw [HPX.out, hpg]; rfl))
            go_wp2_with fail
            refine wp_region_class (fun w' => Below ((wr.heap.size + 1)) ((wr.alloc (.cells #[.int .i64 3, .int .i64 a1, .int .i64 a2, .bool a3, .int .i64 a4, .int .i64 a5, .int .i64 a6, .int .i64 a7, .bool a8, .bool a9, .bool a10, .bool a11, .bool a12, .int .i64 a13] entT))) w') (by kernel_rfl) (by kernel_rfl) (Below.refl _ _).drew ?_
            repeat (first
              | (refine wpLex_pass (by rfl) passes_plain ?_; (conv => arg 9; simp only [put_lit, put_lit_none, List.set]))
              | (refine wpLex_plain (by rfl) ?_
                 apply Exists.intro
                 refine ⟨?_, ?_⟩
                 · intro w' hb
                   have hsz := hb.size
                   try simp at hsz
                   have hcw := fun b o (h : b < (wr.heap.size + 1)) => hb.cell (p := ⟨b, o, none⟩) h
                   have hfw := fun b o (h : b < (wr.heap.size + 1)) => hb.frozen (p := ⟨b, o, none⟩) h
                   go_simp
                   first
                     | exact ⟨rfl, hb⟩
                     | exact rfl
                     | ((with_reducible refine Calls.mono (HOF.out _) ?_); rintro e w2 ⟨rfl, hb2⟩; exact ⟨_, rfl, rfl, hb.trans (hb2.mono hsz)⟩)
                     | ((with_reducible refine Calls.mono (HAB.out _) ?_); rintro e w2 ⟨rfl, hb2⟩; exact ⟨_, rfl, rfl, hb.trans (hb2.mono hsz)⟩)
                 conv => arg 9; simp only [put_lit, put_lit_none, List.set]))
            refine wpLex_nil ?_
            intro wq hbq
            have hsq := hbq.size
            try simp at hsq
            have hcq := fun b o (h : b < (wr.heap.size + 1)) => hbq.cell (p := ⟨b, o, none⟩) h
            have hfq := fun b o (h : b < (wr.heap.size + 1)) => hbq.frozen (p := ⟨b, o, none⟩) h
            have HBq := Lib.hid hbq
            clear hbq
            go_wp2_with fail
            go_roundw
            case rel => exact ⟨k + 1, by omega, by go_num, by rw [HSF.out], (by repeat' (first | (with_reducible exact Below.refl _ _) | (with_reducible (refine Below.setCell ?_ ?_ _)) | (with_reducible (refine Below.alloc ?_ ?_ _)) | (with_reducible (refine Below.drew ?_)) | (with_reducible (refine below_via ?_ HBq.out ?_)) | (with_reducible (refine below_via ?_ HBW.out ?_)) | omega | (simp; done) | (simp; omega)))⟩
            case measure => simp [intOf]; omega
          · have HPT := Lib.hid (show p ⟨3, a1, a2, a3, a4, a5, a6, a7, a8, a9, a10, a11, a12, a13⟩ = true by rw [HPX.out, hpg]; rfl)
            rcases HPB.out k with ⟨h2, h3⟩ | ⟨j, h2, h3, h4, h5⟩
            · have hat : atN es p k = -1 := by unfold atN; rw [h2]
              have HST := Lib.hid (HTT.out (by rw [HPT.out, h3]; exact decide_eq_true (show (0 : Int) < a5 by omega)))
              clear h2 h3
              rw [hat]
              clear hat
              go_wp2_with fail
              refine wp_region_class (fun w' => Below ((wr.heap.size + 1)) ((wr.alloc (.cells #[.int .i64 3, .int .i64 a1, .int .i64 a2, .bool a3, .int .i64 a4, .int .i64 a5, .int .i64 a6, .int .i64 a7, .bool a8, .bool a9, .bool a10, .bool a11, .bool a12, .int .i64 a13] entT))) w') (by kernel_rfl) (by kernel_rfl) (Below.refl _ _).drew ?_
              repeat (first
                | (refine wpLex_pass (by rfl) passes_plain ?_; (conv => arg 9; simp only [put_lit, put_lit_none, List.set]))
                | (refine wpLex_plain (by rfl) ?_
                   apply Exists.intro
                   refine ⟨?_, ?_⟩
                   · intro w' hb
                     have hsz := hb.size
                     try simp at hsz
                     have hcw := fun b o (h : b < (wr.heap.size + 1)) => hb.cell (p := ⟨b, o, none⟩) h
                     have hfw := fun b o (h : b < (wr.heap.size + 1)) => hb.frozen (p := ⟨b, o, none⟩) h
                     go_simp
                     first
                       | exact ⟨rfl, hb⟩
                       | exact rfl
                       | ((with_reducible refine Calls.mono (HOF.out _) ?_); rintro e w2 ⟨rfl, hb2⟩; exact ⟨_, rfl, rfl, hb.trans (hb2.mono hsz)⟩)
                       | ((with_reducible refine Calls.mono (HAB.out _) ?_); rintro e w2 ⟨rfl, hb2⟩; exact ⟨_, rfl, rfl, hb.trans (hb2.mono hsz)⟩)
                   conv => arg 9; simp only [put_lit, put_lit_none, List.set]))
              refine wpLex_nil ?_
              intro wq hbq
              have hsq := hbq.size
              try simp at hsq
              have hcq := fun b o (h : b < (wr.heap.size + 1)) => hbq.cell (p := ⟨b, o, none⟩) h
              have hfq := fun b o (h : b < (wr.heap.size + 1)) => hbq.frozen (p := ⟨b, o, none⟩) h
              have HBq := Lib.hid hbq
              clear hbq
              go_wp2_with fail
              go_roundw
              case rel => exact ⟨k + 1, by omega, by go_num, by rw [HST.out], (by repeat' (first | (with_reducible exact Below.refl _ _) | (with_reducible (refine Below.setCell ?_ ?_ _)) | (with_reducible (refine Below.alloc ?_ ?_ _)) | (with_reducible (refine Below.drew ?_)) | (with_reducible (refine below_via ?_ HBq.out ?_)) | (with_reducible (refine below_via ?_ HBW.out ?_)) | omega | (simp; done) | (simp; omega)))⟩
              case measure => simp [intOf]; omega
            · have hat : atN es p k = j := by unfold atN; rw [h2]
              have HAT := Lib.hid hat
              have hjl : j < es.length := by omega
              have hj0 : (0 : Int) ≤ (j : Int) := by omega
              have hji : (j : Int) < es.length := by omega
              have hjn : decide ((j : Int) < 0) = false := by simp
              have hcj := HCE.out j hjl 5
              rw [List.getElem?_eq_getElem hjl] at h4
              injection h4 with h4
              rw [h4] at hcj
              have d5 := hcj _ rfl
              rw [hat]
              clear h2 hat hcj h4
              generalize hbl : (bestN es p k).level = bl at *
              have HBL := Lib.hid hbl
              clear hbl
              by_cases hlv : bl < a5
              · have HST := Lib.hid (HTT.out (by rw [HPT.out]; simpa using hlv))
                have hq : decide (bl < a5) = true := by simpa using hlv
                go_wp2_with fail
                refine wp_region_class (fun w' => Below ((wr.heap.size + 1)) ((wr.alloc (.cells #[.int .i64 3, .int .i64 a1, .int .i64 a2, .bool a3, .int .i64 a4, .int .i64 a5, .int .i64 a6, .int .i64 a7, .bool a8, .bool a9, .bool a10, .bool a11, .bool a12, .int .i64 a13] entT))) w') (by kernel_rfl) (by kernel_rfl) (Below.refl _ _).drew ?_
                repeat (first
                  | (refine wpLex_pass (by rfl) passes_plain ?_; (conv => arg 9; simp only [put_lit, put_lit_none, List.set]))
                  | (refine wpLex_plain (by rfl) ?_
                     apply Exists.intro
                     refine ⟨?_, ?_⟩
                     · intro w' hb
                       have hsz := hb.size
                       try simp at hsz
                       have hcw := fun b o (h : b < (wr.heap.size + 1)) => hb.cell (p := ⟨b, o, none⟩) h
                       have hfw := fun b o (h : b < (wr.heap.size + 1)) => hb.frozen (p := ⟨b, o, none⟩) h
                       go_simp
                       first
                         | exact ⟨rfl, hb⟩
                         | exact rfl
                         | ((with_reducible refine Calls.mono (HOF.out _) ?_); rintro e w2 ⟨rfl, hb2⟩; exact ⟨_, rfl, rfl, hb.trans (hb2.mono hsz)⟩)
                         | ((with_reducible refine Calls.mono (HAB.out _) ?_); rintro e w2 ⟨rfl, hb2⟩; exact ⟨_, rfl, rfl, hb.trans (hb2.mono hsz)⟩)
                     conv => arg 9; simp only [put_lit, put_lit_none, List.set]))
                refine wpLex_nil ?_
                intro wq hbq
                have hsq := hbq.size
                try simp at hsq
                have hcq := fun b o (h : b < (wr.heap.size + 1)) => hbq.cell (p := ⟨b, o, none⟩) h
                have hfq := fun b o (h : b < (wr.heap.size + 1)) => hbq.frozen (p := ⟨b, o, none⟩) h
                have HBq := Lib.hid hbq
                clear hbq
                go_wp2_with fail
                go_roundw
                case rel => exact ⟨k + 1, by omega, by go_num, by rw [HST.out], (by repeat' (first | (with_reducible exact Below.refl _ _) | (with_reducible (refine Below.setCell ?_ ?_ _)) | (with_reducible (refine Below.alloc ?_ ?_ _)) | (with_reducible (refine Below.drew ?_)) | (with_reducible (refine below_via ?_ HBq.out ?_)) | (with_reducible (refine below_via ?_ HBW.out ?_)) | omega | (simp; done) | (simp; omega)))⟩
                case measure => simp [intOf]; omega
              · have HSF := Lib.hid ((HTS.out (by rw [HPT.out]; simpa using hlv)).trans HAT.out)
                have hq : decide (bl < a5) = false := by simpa using hlv
                go_wp2_with fail
                refine wp_region_class (fun w' => Below ((wr.heap.size + 1)) ((wr.alloc (.cells #[.int .i64 3, .int .i64 a1, .int .i64 a2, .bool a3, .int .i64 a4, .int .i64 a5, .int .i64 a6, .int .i64 a7, .bool a8, .bool a9, .bool a10, .bool a11, .bool a12, .int .i64 a13] entT))) w') (by kernel_rfl) (by kernel_rfl) (Below.refl _ _).drew ?_
                repeat (first
                  | (refine wpLex_pass (by rfl) passes_plain ?_; (conv => arg 9; simp only [put_lit, put_lit_none, List.set]))
                  | (refine wpLex_plain (by rfl) ?_
                     apply Exists.intro
                     refine ⟨?_, ?_⟩
                     · intro w' hb
                       have hsz := hb.size
                       try simp at hsz
                       have hcw := fun b o (h : b < (wr.heap.size + 1)) => hb.cell (p := ⟨b, o, none⟩) h
                       have hfw := fun b o (h : b < (wr.heap.size + 1)) => hb.frozen (p := ⟨b, o, none⟩) h
                       go_simp
                       first
                         | exact ⟨rfl, hb⟩
                         | exact rfl
                         | ((with_reducible refine Calls.mono (HOF.out _) ?_); rintro e w2 ⟨rfl, hb2⟩; exact ⟨_, rfl, rfl, hb.trans (hb2.mono hsz)⟩)
                         | ((with_reducible refine Calls.mono (HAB.out _) ?_); rintro e w2 ⟨rfl, hb2⟩; exact ⟨_, rfl, rfl, hb.trans (hb2.mono hsz)⟩)
                     conv => arg 9; simp only [put_lit, put_lit_none, List.set]))
                refine wpLex_nil ?_
                intro wq hbq
                have hsq := hbq.size
                try simp at hsq
                have hcq := fun b o (h : b < (wr.heap.size + 1)) => hbq.cell (p := ⟨b, o, none⟩) h
                have hfq := fun b o (h : b < (wr.heap.size + 1)) => hbq.frozen (p := ⟨b, o, none⟩) h
                have HBq := Lib.hid hbq
                clear hbq
                go_wp2_with fail
                go_roundw
                case rel => exact ⟨k + 1, by omega, by go_num, by rw [HSF.out], (by repeat' (first | (with_reducible exact Below.refl _ _) | (with_reducible (refine Below.setCell ?_ ?_ _)) | (with_reducible (refine Below.alloc ?_ ?_ _)) | (with_reducible (refine Below.drew ?_)) | (with_reducible (refine below_via ?_ HBq.out ?_)) | (with_reducible (refine below_via ?_ HBW.out ?_)) | omega | (simp; done) | (simp; omega)))⟩
                case measure => simp [intOf]; omega
      · have HSF := Lib.hid (HTS.out (by rw [HPE.out]; unfold ofE; simp [hk1]))
        have q1 : (a0 == 3) = false := by simpa using hk1
        clear hk1
        go_wp2_with fail
        refine wp_region_class (fun w' => Below ((wr.heap.size + 1)) ((wr.alloc (.cells #[.int .i64 a0, .int .i64 a1, .int .i64 a2, .bool a3, .int .i64 a4, .int .i64 a5, .int .i64 a6, .int .i64 a7, .bool a8, .bool a9, .bool a10, .bool a11, .bool a12, .int .i64 a13] entT))) w') (by kernel_rfl) (by kernel_rfl) (Below.refl _ _).drew ?_
        repeat (first
          | (refine wpLex_pass (by rfl) passes_plain ?_; (conv => arg 9; simp only [put_lit, put_lit_none, List.set]))
          | (refine wpLex_plain (by rfl) ?_
             apply Exists.intro
             refine ⟨?_, ?_⟩
             · intro w' hb
               have hsz := hb.size
               try simp at hsz
               have hcw := fun b o (h : b < (wr.heap.size + 1)) => hb.cell (p := ⟨b, o, none⟩) h
               have hfw := fun b o (h : b < (wr.heap.size + 1)) => hb.frozen (p := ⟨b, o, none⟩) h
               go_simp
               first
                 | exact ⟨rfl, hb⟩
                 | exact rfl
             conv => arg 9; simp only [put_lit, put_lit_none, List.set]))
        refine wpLex_nil ?_
        intro wq hbq
        have hsq := hbq.size
        try simp at hsq
        have hcq := fun b o (h : b < (wr.heap.size + 1)) => hbq.cell (p := ⟨b, o, none⟩) h
        have hfq := fun b o (h : b < (wr.heap.size + 1)) => hbq.frozen (p := ⟨b, o, none⟩) h
        have HBq := Lib.hid hbq
        clear hbq
        go_wp2_with fail
        go_roundw
        case rel => exact ⟨k + 1, by omega, by go_num, by rw [HSF.out], (by repeat' (first | (with_reducible exact Below.refl _ _) | (with_reducible (refine Below.setCell ?_ ?_ _)) | (with_reducible (refine Below.alloc ?_ ?_ _)) | (with_reducible (refine Below.drew ?_)) | (with_reducible (refine below_via ?_ HBq.out ?_)) | (with_reducible (refine below_via ?_ HBW.out ?_)) | omega | (simp; done) | (simp; omega)))⟩
        case measure => simp [intOf]; omega
    · have hki : ¬ (k : Int) < es.length := by omega
      have HKE := Lib.hid (show es.length = k by omega)
      go_wp2
      go_ret
      exact ⟨by rw [HKE.out] <;> rfl, (by repeat' (first | (with_reducible exact Below.refl _ _) | (with_reducible (refine Below.setCell ?_ ?_ _)) | (with_reducible (refine Below.alloc ?_ ?_ _)) | (with_reducible (refine Below.drew ?_)) | (with_reducible (refine below_via ?_ HBW.out ?_)) | (with_reducible (refine below_via ?_ HBX.out ?_)) | omega | (simp; done) | (simp; omega)))⟩

end Go.Proofs.Ytbaninglcafhhaa
