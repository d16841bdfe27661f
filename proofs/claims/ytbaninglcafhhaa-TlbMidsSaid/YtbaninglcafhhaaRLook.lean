/-
  The page's searches of an entry. Conditions: it reads; the entries may be.
-/
import Derived.Test.YtbaninglcafhhaaChkA
import Derived.Test.YtbaninglcafhhaaEntE
import Derived.Test.YtbaninglcafhhaaPut
namespace Go.Proofs.Ytbaninglcafhhaa
open Go.RowKit

set_option maxRecDepth 100000 in
set_option maxHeartbeats 8000000 in
theorem rWhole_any (t : Tl) (vmid asid page acc : Int) (w : World) (h : TlAt w t) (hok : ∀ e ∈ t.es, entOk e = true) :
    Calls Try.prog 58 #[.agg t.cells.toArray, .int .i64 vmid, .int .i64 asid, .int .i64 page, .int .i64 acc] w fun y w' => y = .returned (.int .i64 (idx (fun e => ofE e 1 vmid asid page && letsE e acc) t.es)) ∧ Below w.heap.size w w' := by
  have HE := Lib.hid h.eat
  have hel := h.elen
  obtain ⟨p, hp⟩ : ∃ p : Ent → Bool, p = fun e => ofE e 1 vmid asid page && letsE e acc := ⟨_, rfl⟩
  rw [← hp]
  have HP := Lib.hid (fun e => congrFun hp e)
  have HOK := Lib.hid hok
  obtain ⟨ea, ec, es, da, dc, ds⟩ := t
  dsimp only [Tl.cells] at *
  clear h hp hok
  go_enter Try.func58, Try.ntmps58
  go_wp2_with fail
  refine name_world ?_
  intro wo hwo
  have HXO := Lib.hid (show wo.heap[w.heap.size]? = some (.cells #[.slice ea es.length ec, .slice da ds.length dc] tlbT (0, 0)) by rw [hwo]; exact heap_new _ _)
  have HBX := Lib.hid (show Below w.heap.size w wo by rw [hwo]; repeat' (first | (with_reducible exact Below.refl _ _) | (with_reducible (refine Below.setCell ?_ ?_ _)) | (with_reducible (refine Below.alloc ?_ ?_ _)) | (with_reducible (refine Below.drew ?_)) | omega | (simp; done) | (simp; omega)))
  have hso : w.heap.size < wo.heap.size := by rw [hwo]; simp
  clear hwo
  go_loopw [11] (fun i wr => ∃ k : Nat, k ≤ es.length ∧ i = .int .i64 k ∧ (es.take k).any p = false ∧ Below wo.heap.size wo wr) (fun i _ => es.length - (intOf i).toNat)
  case atStart => exact ⟨0, Nat.zero_le _, rfl, by simp, Below.refl _ _⟩
  case round =>
    obtain ⟨k, hk, rfl, hany, hbw⟩ := hrel
    have HAN := Lib.hid hany
    have HBW := Lib.hid hbw
    have hsw := hbw.size
    have HXW := Lib.hid ((hbw.block _ hso).trans HXO.out)
    clear hany hbw
    have x12 := fun j => cell_of_row _ _ j _ _ _ HXW.out
    have xf12 := fun j => frozen_of_row _ _ j _ _ HXW.out
    by_cases hlt : k < es.length
    · have hki : (k : Int) < es.length := by omega
      have HBR := Lib.hid (below_via HBX.out HBW.out (by have := HBX.out.size; omega))
      obtain ⟨be, oe, rfl, hbe, hce⟩ := at_cells HE.out HBR.out hlt
      have hoke := HOK.out es[k] (List.getElem_mem hlt)
      obtain ⟨e, hek⟩ : ∃ e, es[k] = e := ⟨_, rfl⟩
      have HEK := Lib.hid hek
      rw [hek] at hce hoke
      clear hek
      have HOF := Lib.hid (fun W => rof_any e vmid asid W)
      have HMA := Lib.hid (fun W => refMay_any e.r e.w e.x e.af e.ng e.soft acc W)
      have HPE := Lib.hid (HP.out e)
      have c0 := hce 0 _ rfl
      have c1 := hce 1 _ rfl
      have c2 := hce 2 _ rfl
      have c3 := hce 3 _ rfl
      have c4 := hce 4 _ rfl
      have c5 := hce 5 _ rfl
      have c6 := hce 6 _ rfl
      have c7 := hce 7 _ rfl
      have c8 := hce 8 _ rfl
      have c9 := hce 9 _ rfl
      have c10 := hce 10 _ rfl
      have c11 := hce 11 _ rfl
      have c12 := hce 12 _ rfl
      have c13 := hce 13 _ rfl
      simp only [Nat.add_zero] at c0
      clear hce hoke
      obtain ⟨o1, ho1⟩ : ∃ x, oneOf e vmid asid = x := ⟨_, rfl⟩
      rw [ho1] at HOF
      obtain ⟨o2, ho2⟩ : ∃ x, letsE e acc = x := ⟨_, rfl⟩
      rw [show mayOf e.r e.w e.x acc = o2 from ho2] at HMA
      have hbe2 : be < wr.heap.size := by have := HBR.out.size; omega
      obtain ⟨a0, a1, a2, a3, a4, a5, a6, a7, a8, a9, a10, a11, a12, a13⟩ := e
      dsimp only [Ent.cells] at *
      by_cases hk1 : a0 = 1
      · subst hk1
        have HPX := Lib.hid (show (ofE ⟨1, a1, a2, a3, a4, a5, a6, a7, a8, a9, a10, a11, a12, a13⟩ 1 vmid asid page && letsE ⟨1, a1, a2, a3, a4, a5, a6, a7, a8, a9, a10, a11, a12, a13⟩ acc) = (o1 && (a4 == page && o2)) by
          rw [← ho1, ← ho2]; unfold ofE oneOf pageOf; simp [Bool.and_assoc])
        clear ho1 ho2
        cases o1
        · have HPF := Lib.hid (show (ofE ⟨1, a1, a2, a3, a4, a5, a6, a7, a8, a9, a10, a11, a12, a13⟩ 1 vmid asid page && letsE ⟨1, a1, a2, a3, a4, a5, a6, a7, a8, a9, a10, a11, a12, a13⟩ acc) = false by rw [HPX.out]; rfl)
          go_wp2_with fail
          refine Calls.mono (HOF.out _) ?_
          rintro e w5 ⟨rfl, hb5⟩
          have hs5 := hb5.size
          try simp at hs5
          have hc5_0 := fun o => (bcell hb5).1 (wr.heap.size) o (by first | omega | (simp; done) | (simp; omega))
          have hf5_0 := fun o => (bcell hb5).2.1 (wr.heap.size) o (by first | omega | (simp; done) | (simp; omega))
          have hz5_0 := (bcell hb5).2.2 (wr.heap.size) (by first | omega | (simp; done) | (simp; omega))
          have HB5 := Lib.hid hb5
          clear hb5
          go_wp2_with fail
          go_roundw
          case rel => exact ⟨k + 1, by omega, by go_num, any_take_step HAN.out hlt (by rw [HEK.out, HPE.out]; exact HPF.out), (by repeat' (first | (with_reducible exact Below.refl _ _) | (with_reducible (refine Below.setCell ?_ ?_ _)) | (with_reducible (refine Below.alloc ?_ ?_ _)) | (with_reducible (refine Below.drew ?_)) | (with_reducible (refine below_via ?_ HB5.out ?_)) | (with_reducible (refine below_via ?_ HBW.out ?_)) | omega | (simp; done) | (simp; omega)))⟩
          case measure => simp [intOf]; omega
        · rcases hpg : (a4 == page) with _ | _
          · have HPF := Lib.hid (show (ofE ⟨1, a1, a2, a3, a4, a5, a6, a7, a8, a9, a10, a11, a12, a13⟩ 1 vmid asid page && letsE ⟨1, a1, a2, a3, a4, a5, a6, a7, a8, a9, a10, a11, a12, a13⟩ acc) = false by rw [HPX.out, hpg]; rfl)
            go_wp2_with fail
            refine Calls.mono (HOF.out _) ?_
            rintro e w5 ⟨rfl, hb5⟩
            have hs5 := hb5.size
            try simp at hs5
            have hc5_0 := fun o => (bcell hb5).1 (wr.heap.size) o (by first | omega | (simp; done) | (simp; omega))
            have hf5_0 := fun o => (bcell hb5).2.1 (wr.heap.size) o (by first | omega | (simp; done) | (simp; omega))
            have hz5_0 := (bcell hb5).2.2 (wr.heap.size) (by first | omega | (simp; done) | (simp; omega))
            have HB5 := Lib.hid hb5
            clear hb5
            go_wp2_with fail
            go_roundw
            case rel => exact ⟨k + 1, by omega, by go_num, any_take_step HAN.out hlt (by rw [HEK.out, HPE.out]; exact HPF.out), (by repeat' (first | (with_reducible exact Below.refl _ _) | (with_reducible (refine Below.setCell ?_ ?_ _)) | (with_reducible (refine Below.alloc ?_ ?_ _)) | (with_reducible (refine Below.drew ?_)) | (with_reducible (refine below_via ?_ HB5.out ?_)) | (with_reducible (refine below_via ?_ HBW.out ?_)) | omega | (simp; done) | (simp; omega)))⟩
            case measure => simp [intOf]; omega
          · cases o2
            · have HPF := Lib.hid (show (ofE ⟨1, a1, a2, a3, a4, a5, a6, a7, a8, a9, a10, a11, a12, a13⟩ 1 vmid asid page && letsE ⟨1, a1, a2, a3, a4, a5, a6, a7, a8, a9, a10, a11, a12, a13⟩ acc) = false by rw [HPX.out]; simp)
              go_wp2_with fail
              refine Calls.mono (HOF.out _) ?_
              rintro e w5 ⟨rfl, hb5⟩
              have hs5 := hb5.size
              try simp at hs5
              have hc5_0 := fun o => (bcell hb5).1 (wr.heap.size) o (by first | omega | (simp; done) | (simp; omega))
              have hf5_0 := fun o => (bcell hb5).2.1 (wr.heap.size) o (by first | omega | (simp; done) | (simp; omega))
              have hz5_0 := (bcell hb5).2.2 (wr.heap.size) (by first | omega | (simp; done) | (simp; omega))
              have HB5 := Lib.hid hb5
              clear hb5
              go_wp2_with fail
              refine Calls.mono (HMA.out _) ?_
              rintro e w6 ⟨rfl, hb6⟩
              have hs6 := hb6.size
              try simp at hs6
              have HB6 := Lib.hid hb6
              clear hb6
              go_wp2_with fail
              go_roundw
              case rel => exact ⟨k + 1, by omega, by go_num, any_take_step HAN.out hlt (by rw [HEK.out, HPE.out]; exact HPF.out), (by repeat' (first | (with_reducible exact Below.refl _ _) | (with_reducible (refine Below.setCell ?_ ?_ _)) | (with_reducible (refine Below.alloc ?_ ?_ _)) | (with_reducible (refine Below.drew ?_)) | (with_reducible (refine below_via ?_ HB6.out ?_)) | (with_reducible (refine below_via ?_ HB5.out ?_)) | (with_reducible (refine below_via ?_ HBW.out ?_)) | omega | (simp; done) | (simp; omega)))⟩
              case measure => simp [intOf]; omega
            · have HPT := Lib.hid (show (ofE ⟨1, a1, a2, a3, a4, a5, a6, a7, a8, a9, a10, a11, a12, a13⟩ 1 vmid asid page && letsE ⟨1, a1, a2, a3, a4, a5, a6, a7, a8, a9, a10, a11, a12, a13⟩ acc) = true by rw [HPX.out, hpg]; rfl)
              go_wp2_with fail
              refine Calls.mono (HOF.out _) ?_
              rintro e w5 ⟨rfl, hb5⟩
              have hs5 := hb5.size
              try simp at hs5
              have hc5_0 := fun o => (bcell hb5).1 (wr.heap.size) o (by first | omega | (simp; done) | (simp; omega))
              have hf5_0 := fun o => (bcell hb5).2.1 (wr.heap.size) o (by first | omega | (simp; done) | (simp; omega))
              have hz5_0 := (bcell hb5).2.2 (wr.heap.size) (by first | omega | (simp; done) | (simp; omega))
              have HB5 := Lib.hid hb5
              clear hb5
              go_wp2_with fail
              refine Calls.mono (HMA.out _) ?_
              rintro e w6 ⟨rfl, hb6⟩
              have hs6 := hb6.size
              try simp at hs6
              have HB6 := Lib.hid hb6
              clear hb6
              go_wp2
              go_ret
              exact ⟨by rw [idx_yes HAN.out hlt (by rw [HEK.out, HPE.out]; exact HPT.out)] <;> rfl, (by repeat' (first | (with_reducible exact Below.refl _ _) | (with_reducible (refine Below.setCell ?_ ?_ _)) | (with_reducible (refine Below.alloc ?_ ?_ _)) | (with_reducible (refine Below.drew ?_)) | (with_reducible (refine below_via ?_ HB6.out ?_)) | (with_reducible (refine below_via ?_ HB5.out ?_)) | (with_reducible (refine below_via ?_ HBW.out ?_)) | (with_reducible (refine below_via ?_ HBX.out ?_)) | omega | (simp; done) | (simp; omega)))⟩
      · have HPF := Lib.hid (show (ofE ⟨a0, a1, a2, a3, a4, a5, a6, a7, a8, a9, a10, a11, a12, a13⟩ 1 vmid asid page && letsE ⟨a0, a1, a2, a3, a4, a5, a6, a7, a8, a9, a10, a11, a12, a13⟩ acc) = false by unfold ofE; simp [hk1])
        have q1 : (a0 == 1) = false := by simpa using hk1
        clear ho1 ho2 hk1
        go_wp2_with fail
        go_roundw
        case rel => exact ⟨k + 1, by omega, by go_num, any_take_step HAN.out hlt (by rw [HEK.out, HPE.out]; exact HPF.out), (by repeat' (first | (with_reducible exact Below.refl _ _) | (with_reducible (refine Below.setCell ?_ ?_ _)) | (with_reducible (refine Below.alloc ?_ ?_ _)) | (with_reducible (refine Below.drew ?_)) | (with_reducible (refine below_via ?_ HBW.out ?_)) | omega | (simp; done) | (simp; omega)))⟩
        case measure => simp [intOf]; omega
    · have hki : ¬ (k : Int) < es.length := by omega
      go_wp2
      go_ret
      exact ⟨by rw [idx_no HAN.out (show es.length ≤ k by omega)] <;> rfl, (by repeat' (first | (with_reducible exact Below.refl _ _) | (with_reducible (refine Below.setCell ?_ ?_ _)) | (with_reducible (refine Below.alloc ?_ ?_ _)) | (with_reducible (refine Below.drew ?_)) | (with_reducible (refine below_via ?_ HBW.out ?_)) | (with_reducible (refine below_via ?_ HBX.out ?_)) | omega | (simp; done) | (simp; omega)))⟩

set_option maxRecDepth 100000 in
set_option maxHeartbeats 8000000 in
theorem rMid_any (t : Tl) (vmid page acc : Int) (w : World) (h : TlAt w t) (hok : ∀ e ∈ t.es, entOk e = true) :
    Calls Try.prog 59 #[.agg t.cells.toArray, .int .i64 vmid, .int .i64 page, .int .i64 acc] w fun y w' => y = .returned (.int .i64 (idx (fun e => ofE e 2 vmid 0 page && letsE e acc) t.es)) ∧ Below w.heap.size w w' := by
  have HE := Lib.hid h.eat
  have hel := h.elen
  obtain ⟨p, hp⟩ : ∃ p : Ent → Bool, p = fun e => ofE e 2 vmid 0 page && letsE e acc := ⟨_, rfl⟩
  rw [← hp]
  have HP := Lib.hid (fun e => congrFun hp e)
  have HOK := Lib.hid hok
  obtain ⟨ea, ec, es, da, dc, ds⟩ := t
  dsimp only [Tl.cells] at *
  clear h hp hok
  go_enter Try.func59, Try.ntmps59
  go_wp2_with fail
  refine name_world ?_
  intro wo hwo
  have HXO := Lib.hid (show wo.heap[w.heap.size]? = some (.cells #[.slice ea es.length ec, .slice da ds.length dc] tlbT (0, 0)) by rw [hwo]; exact heap_new _ _)
  have HBX := Lib.hid (show Below w.heap.size w wo by rw [hwo]; repeat' (first | (with_reducible exact Below.refl _ _) | (with_reducible (refine Below.setCell ?_ ?_ _)) | (with_reducible (refine Below.alloc ?_ ?_ _)) | (with_reducible (refine Below.drew ?_)) | omega | (simp; done) | (simp; omega)))
  have hso : w.heap.size < wo.heap.size := by rw [hwo]; simp
  clear hwo
  go_loopw [9] (fun i wr => ∃ k : Nat, k ≤ es.length ∧ i = .int .i64 k ∧ (es.take k).any p = false ∧ Below wo.heap.size wo wr) (fun i _ => es.length - (intOf i).toNat)
  case atStart => exact ⟨0, Nat.zero_le _, rfl, by simp, Below.refl _ _⟩
  case round =>
    obtain ⟨k, hk, rfl, hany, hbw⟩ := hrel
    have HAN := Lib.hid hany
    have HBW := Lib.hid hbw
    have hsw := hbw.size
    have HXW := Lib.hid ((hbw.block _ hso).trans HXO.out)
    clear hany hbw
    have x12 := fun j => cell_of_row _ _ j _ _ _ HXW.out
    have xf12 := fun j => frozen_of_row _ _ j _ _ HXW.out
    by_cases hlt : k < es.length
    · have hki : (k : Int) < es.length := by omega
      have HBR := Lib.hid (below_via HBX.out HBW.out (by have := HBX.out.size; omega))
      obtain ⟨be, oe, rfl, hbe, hce⟩ := at_cells HE.out HBR.out hlt
      have hoke := HOK.out es[k] (List.getElem_mem hlt)
      obtain ⟨e, hek⟩ : ∃ e, es[k] = e := ⟨_, rfl⟩
      have HEK := Lib.hid hek
      rw [hek] at hce hoke
      clear hek
      have HAL := Lib.hid (entOk_parts (hoke)).2.2.2
      have HMA := Lib.hid (fun W => refMay_any e.r e.w e.x e.af e.ng e.soft acc W)
      have HPE := Lib.hid (HP.out e)
      have c0 := hce 0 _ rfl
      have c1 := hce 1 _ rfl
      have c2 := hce 2 _ rfl
      have c3 := hce 3 _ rfl
      have c4 := hce 4 _ rfl
      have c5 := hce 5 _ rfl
      have c6 := hce 6 _ rfl
      have c7 := hce 7 _ rfl
      have c8 := hce 8 _ rfl
      have c9 := hce 9 _ rfl
      have c10 := hce 10 _ rfl
      have c11 := hce 11 _ rfl
      have c12 := hce 12 _ rfl
      have c13 := hce 13 _ rfl
      simp only [Nat.add_zero] at c0
      clear hce hoke
      obtain ⟨o2, ho2⟩ : ∃ x, letsE e acc = x := ⟨_, rfl⟩
      rw [show mayOf e.r e.w e.x acc = o2 from ho2] at HMA
      have hbe2 : be < wr.heap.size := by have := HBR.out.size; omega
      obtain ⟨a0, a1, a2, a3, a4, a5, a6, a7, a8, a9, a10, a11, a12, a13⟩ := e
      dsimp only [Ent.cells] at *
      obtain ⟨o1, ho1⟩ : ∃ x, (a1 == vmid) = x := ⟨_, rfl⟩
      by_cases hk1 : a0 = 2
      · subst hk1
        have HPX := Lib.hid (show (ofE ⟨2, a1, a2, a3, a4, a5, a6, a7, a8, a9, a10, a11, a12, a13⟩ 2 vmid 0 page && letsE ⟨2, a1, a2, a3, a4, a5, a6, a7, a8, a9, a10, a11, a12, a13⟩ acc) = (o1 && (a4 == page && o2)) by
          rw [← ho1, ← ho2]; unfold ofE pageOf; have h5 := HAL.out rfl; (try simp at h5); simp [h5, Bool.and_assoc])
        clear ho2
        cases o1
        · have HPF := Lib.hid (show (ofE ⟨2, a1, a2, a3, a4, a5, a6, a7, a8, a9, a10, a11, a12, a13⟩ 2 vmid 0 page && letsE ⟨2, a1, a2, a3, a4, a5, a6, a7, a8, a9, a10, a11, a12, a13⟩ acc) = false by rw [HPX.out]; rfl)
          go_wp2_with fail
          go_roundw
          case rel => exact ⟨k + 1, by omega, by go_num, any_take_step HAN.out hlt (by rw [HEK.out, HPE.out]; exact HPF.out), (by repeat' (first | (with_reducible exact Below.refl _ _) | (with_reducible (refine Below.setCell ?_ ?_ _)) | (with_reducible (refine Below.alloc ?_ ?_ _)) | (with_reducible (refine Below.drew ?_)) | (with_reducible (refine below_via ?_ HBW.out ?_)) | omega | (simp; done) | (simp; omega)))⟩
          case measure => simp [intOf]; omega
        · rcases hpg : (a4 == page) with _ | _
          · have HPF := Lib.hid (show (ofE ⟨2, a1, a2, a3, a4, a5, a6, a7, a8, a9, a10, a11, a12, a13⟩ 2 vmid 0 page && letsE ⟨2, a1, a2, a3, a4, a5, a6, a7, a8, a9, a10, a11, a12, a13⟩ acc) = false by rw [HPX.out, hpg]; rfl)
            go_wp2_with fail
            go_roundw
            case rel => exact ⟨k + 1, by omega, by go_num, any_take_step HAN.out hlt (by rw [HEK.out, HPE.out]; exact HPF.out), (by repeat' (first | (with_reducible exact Below.refl _ _) | (with_reducible (refine Below.setCell ?_ ?_ _)) | (with_reducible (refine Below.alloc ?_ ?_ _)) | (with_reducible (refine Below.drew ?_)) | (with_reducible (refine below_via ?_ HBW.out ?_)) | omega | (simp; done) | (simp; omega)))⟩
            case measure => simp [intOf]; omega
          · cases o2
            · have HPF := Lib.hid (show (ofE ⟨2, a1, a2, a3, a4, a5, a6, a7, a8, a9, a10, a11, a12, a13⟩ 2 vmid 0 page && letsE ⟨2, a1, a2, a3, a4, a5, a6, a7, a8, a9, a10, a11, a12, a13⟩ acc) = false by rw [HPX.out]; simp)
              go_wp2_with fail
              refine Calls.mono (HMA.out _) ?_
              rintro e w5 ⟨rfl, hb5⟩
              have hs5 := hb5.size
              try simp at hs5
              have HB5 := Lib.hid hb5
              clear hb5
              go_wp2_with fail
              go_roundw
              case rel => exact ⟨k + 1, by omega, by go_num, any_take_step HAN.out hlt (by rw [HEK.out, HPE.out]; exact HPF.out), (by repeat' (first | (with_reducible exact Below.refl _ _) | (with_reducible (refine Below.setCell ?_ ?_ _)) | (with_reducible (refine Below.alloc ?_ ?_ _)) | (with_reducible (refine Below.drew ?_)) | (with_reducible (refine below_via ?_ HB5.out ?_)) | (with_reducible (refine below_via ?_ HBW.out ?_)) | omega | (simp; done) | (simp; omega)))⟩
              case measure => simp [intOf]; omega
            · have HPT := Lib.hid (show (ofE ⟨2, a1, a2, a3, a4, a5, a6, a7, a8, a9, a10, a11, a12, a13⟩ 2 vmid 0 page && letsE ⟨2, a1, a2, a3, a4, a5, a6, a7, a8, a9, a10, a11, a12, a13⟩ acc) = true by rw [HPX.out, hpg]; rfl)
              go_wp2_with fail
              refine Calls.mono (HMA.out _) ?_
              rintro e w5 ⟨rfl, hb5⟩
              have hs5 := hb5.size
              try simp at hs5
              have HB5 := Lib.hid hb5
              clear hb5
              go_wp2
              go_ret
              exact ⟨by rw [idx_yes HAN.out hlt (by rw [HEK.out, HPE.out]; exact HPT.out)] <;> rfl, (by repeat' (first | (with_reducible exact Below.refl _ _) | (with_reducible (refine Below.setCell ?_ ?_ _)) | (with_reducible (refine Below.alloc ?_ ?_ _)) | (with_reducible (refine Below.drew ?_)) | (with_reducible (refine below_via ?_ HB5.out ?_)) | (with_reducible (refine below_via ?_ HBW.out ?_)) | (with_reducible (refine below_via ?_ HBX.out ?_)) | omega | (simp; done) | (simp; omega)))⟩
      · have HPF := Lib.hid (show (ofE ⟨a0, a1, a2, a3, a4, a5, a6, a7, a8, a9, a10, a11, a12, a13⟩ 2 vmid 0 page && letsE ⟨a0, a1, a2, a3, a4, a5, a6, a7, a8, a9, a10, a11, a12, a13⟩ acc) = false by unfold ofE; simp [hk1])
        have q1 : (a0 == 2) = false := by simpa using hk1
        clear ho1 ho2 hk1
        go_wp2_with fail
        go_roundw
        case rel => exact ⟨k + 1, by omega, by go_num, any_take_step HAN.out hlt (by rw [HEK.out, HPE.out]; exact HPF.out), (by repeat' (first | (with_reducible exact Below.refl _ _) | (with_reducible (refine Below.setCell ?_ ?_ _)) | (with_reducible (refine Below.alloc ?_ ?_ _)) | (with_reducible (refine Below.drew ?_)) | (with_reducible (refine below_via ?_ HBW.out ?_)) | omega | (simp; done) | (simp; omega)))⟩
        case measure => simp [intOf]; omega
    · have hki : ¬ (k : Int) < es.length := by omega
      go_wp2
      go_ret
      exact ⟨by rw [idx_no HAN.out (show es.length ≤ k by omega)] <;> rfl, (by repeat' (first | (with_reducible exact Below.refl _ _) | (with_reducible (refine Below.setCell ?_ ?_ _)) | (with_reducible (refine Below.alloc ?_ ?_ _)) | (with_reducible (refine Below.drew ?_)) | (with_reducible (refine below_via ?_ HBW.out ?_)) | (with_reducible (refine below_via ?_ HBX.out ?_)) | omega | (simp; done) | (simp; omega)))⟩

end Go.Proofs.Ytbaninglcafhhaa
