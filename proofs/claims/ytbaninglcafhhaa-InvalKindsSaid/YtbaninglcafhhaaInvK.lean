/-
  'InvalKinds' returns true, and of what was there nothing has turned. Conditions: the argument reads as such.
-/
import Derived.Test.YtbaninglcafhhaaInvT
import Derived.Deep.CutRange
namespace Go.Proofs.Ytbaninglcafhhaa
open Go.RowKit

theorem entOk_nums {e : Ent} (h : entOk e = true) : (0 ≤ e.vmid ∧ e.vmid ≤ 15) ∧ (0 ≤ e.asid ∧ e.asid ≤ 15) ∧ (0 ≤ e.page ∧ e.page ≤ 4095) ∧ (e.kind = 3 → e.page = cutOf e.page e.level) := by
  unfold entOk numOk at h
  simp only [Bool.and_eq_true, decide_eq_true_eq] at h
  obtain ⟨⟨h1, h2, h3, _⟩, h4⟩ := h
  refine ⟨h1, h2, h3, fun hk => ?_⟩
  rw [hk, if_neg (by decide), if_neg (by decide), if_pos rfl] at h4
  simp only [Bool.and_eq_true, decide_eq_true_eq, beq_iff_eq] at h4
  exact h4.2.2.1
def wantE (kd : Int) (ke : Int) (al : Bool) : Bool := kd == 1 || kd == 2 || (kd == 6 && ke == 2) || ((kd == 3 || kd == 5) && !(ke == 2)) || (kd == 4 && (!(ke == 2) && !al))
theorem due_mine {kd vm asd pg : Int} (h : 1 ≤ kd ∧ kd ≤ 6) (h1 : 0 ≤ vm ∧ vm ≤ 15) (h2 : 0 ≤ asd ∧ asd ≤ 15) (h3 : 0 ≤ pg ∧ pg ≤ 4095) : dueOk ⟨kd, vm, asd, pg⟩ = true := by
  simp [dueOk, numOk, *]
theorem kinds_a {e : Ent} (h : entOk e = true) {kd : Int} (hk : 1 ≤ kd ∧ kd ≤ 6) : takesE ⟨kd, e.vmid, e.asid, e.page⟩ e = wantE kd e.kind e.all := by
  obtain ⟨_, hk3, _, _⟩ := entOk_parts h
  obtain ⟨_, _, _, h4⟩ := entOk_nums h
  have : kd = 1 ∨ kd = 2 ∨ kd = 3 ∨ kd = 4 ∨ kd = 5 ∨ kd = 6 := by omega
  unfold takesE wantE stageE atE pageOf
  rcases this with rfl | rfl | rfl | rfl | rfl | rfl <;> rcases hk3 with h5 | h5 | h5 <;> simp [h5]
  · exact h4 h5
theorem kinds_b {e : Ent} {kd : Int} (hk : 1 ≤ kd ∧ kd ≤ 6) (h1 : 0 ≤ e.vmid ∧ e.vmid ≤ 15) (a p : Int) : takesE ⟨kd, (e.vmid + 1) % 16, a, p⟩ e = (kd == 1) := by
  unfold takesE
  by_cases h : kd = 1
  · subst h; rfl
  · have h2 : (kd == 1) = false := by simpa using h
    rw [if_neg h, h2]
    have h3 : ((e.vmid + 1) % 16 == e.vmid) = false := by simp; omega
    dsimp only
    rw [h3, Bool.false_and]
theorem kinds_d {e : Ent} {kd : Int} (v a : Int) (hk : kd = 6 ∨ (kd = 5 ∧ e.kind = 1)) : takesE ⟨kd, v, a, 4095 - e.page⟩ e = false := by
  have h3 : (e.page == 4095 - e.page) = false := by simp; omega
  unfold takesE atE pageOf
  rcases hk with rfl | ⟨rfl, hk⟩
  · by_cases h : e.kind = 2 <;> simp [h, h3]
  · simp [hk, h3]

set_option maxRecDepth 100000 in
set_option maxHeartbeats 16000000 in
theorem invalKinds_walk (q : Ask) (w : World) (hq : AskAt w q) :
    Calls Try.prog 4 #[.agg q.cells.toArray] w fun e w' => e = .returned (.bool true) ∧ Below w.heap.size w w' := by
  have HHV := Lib.hid (fun W (hb : Below w.heap.size w W) => heavy10_any q W (hq.below hb))
  have HE := Lib.hid hq.eat
  have hel := hq.elen
  clear hq
  obtain ⟨ta, tc, ts, ia, ic, is_, ea, ec, es⟩ := q
  simp only [Ask.cells] at *
  have HWA := Lib.hid (fun W => wakes10_any W)
  have HNU := Lib.hid (fun (n : Int) W => dnum_any n W)
  go_enter Try.func4, Try.ntmps4
  go_wp2_with fail
  refine (HHV.out _ (by repeat' (first | (with_reducible exact Below.refl _ _) | (with_reducible (refine Below.setCell ?_ ?_ _)) | (with_reducible (refine Below.alloc ?_ ?_ _)) | (with_reducible (refine Below.drew ?_)) | omega | (simp; done) | (simp; omega)))).mono ?_
  rintro e w1 ⟨b, hlight, rfl, hb1⟩
  clear hlight HHV
  have hs1 := hb1.size
  simp at hs1
  have hc1 := fun o => (bcell hb1).1 w.heap.size o (by simp)
  have hf1 := fun o => (bcell hb1).2.1 w.heap.size o (by simp)
  have hz1 : w.heap.size < w1.heap.size := by omega
  have HB1 := Lib.hid hb1
  clear hb1
  cases b
  case true =>
    go_wp2
    go_ret
    exact ⟨rfl, (by repeat' (first | (with_reducible exact Below.refl _ _) | (with_reducible (refine Below.setCell ?_ ?_ _)) | (with_reducible (refine Below.alloc ?_ ?_ _)) | (with_reducible (refine Below.drew ?_)) | (with_reducible (refine below_via ?_ HB1.out ?_)) | omega | (simp; done) | (simp; omega)))⟩
  case false =>
    go_wp2_with fail
    clear hc1 hf1
    have HX := Lib.hid (show w1.heap[w.heap.size]? = some (.cells #[.slice ta ts.length tc, .slice ia is_.length ic, .slice ea es.length ec] askT (0, 0)) from (by repeat (first | (with_reducible assumption) | (with_reducible refine heap_below_is HB1.out (by (first | omega | (simp; done) | (simp; omega))) ?_) | (exact heap_at _ _ (by simp; done)) | (with_reducible refine heap_old_is _ _ (by (first | omega | (simp; done) | (simp; omega))) ?_) | (with_reducible refine heap_far_is (by (first | omega | (simp; done) | (simp; omega))) ?_))))
    have HB := Lib.hid ((by repeat' (first | (with_reducible exact Below.refl _ _) | (with_reducible (refine Below.setCell ?_ ?_ _)) | (with_reducible (refine Below.alloc ?_ ?_ _)) | (with_reducible (refine Below.drew ?_)) | (with_reducible (refine below_via ?_ HB1.out ?_)) | omega | (simp; done) | (simp; omega))) : Below w.heap.size w w1)
    go_loopw [3] (fun i wr => ∃ k : Nat, k ≤ es.length ∧ k ≤ 12 ∧ i = .int .i64 k ∧ Below w1.heap.size w1 wr) (fun i _ => 12 - (intOf i).toNat)
    case atStart => exact ⟨0, Nat.zero_le _, Nat.zero_le _, rfl, Below.refl _ _⟩
    case round =>
      obtain ⟨k, hk, hk12, rfl, hbw⟩ := hrel
      have HXR := Lib.hid ((hbw.block _ hz1).trans HX.out)
      have HBW := Lib.hid hbw
      have hsw := hbw.size
      clear hbw
      have e2 := cell_of_row _ _ 2 _ _ _ HXR.out
      have ef := fun j => frozen_of_row _ _ j _ _ HXR.out
      have hxl := heap_lt HXR.out
      by_cases hlt : k < es.length ∧ k < 12
      · obtain ⟨hlt, hlt12⟩ := hlt
        have hki : (k : Int) < es.length := by omega
        have q12 : decide ((k : Int) < 12) = true := by simp; omega
        have HBR := Lib.hid ((by repeat' (first | (with_reducible exact Below.refl _ _) | (with_reducible (refine Below.setCell ?_ ?_ _)) | (with_reducible (refine Below.alloc ?_ ?_ _)) | (with_reducible (refine Below.drew ?_)) | (with_reducible (refine below_via ?_ HBW.out ?_)) | (with_reducible (refine below_via ?_ HB.out ?_)) | omega | (simp; done) | (simp; omega))) : Below w.heap.size w wr)
        obtain ⟨be, oe, rfl, hbe, hce⟩ := at_cells HE.out HBR.out hlt
        have hswr := HBR.out.size
        have hbe2 : be < wr.heap.size := by omega
        generalize es[k] = e at *
        have HRE := Lib.hid (fun W => rent_any e W)
        have c0 := hce 0 _ rfl
        have c1 := hce 1 _ rfl
        have c2 := hce 2 _ rfl
        have c3 := hce 3 _ rfl
        have c4 := hce 4 _ rfl
        have c5 := hce 5 _ rfl
        have c6 := hce 6 _ rfl
        have c7 := hce 7 _ rfl
        have c8 := hce 8 _ rfl
        have c9 := hce 9 _ rfl
        have c10 := hce 10 _ rfl
        have c11 := hce 11 _ rfl
        have c12 := hce 12 _ rfl
        have c13 := hce 13 _ rfl
        simp only [Nat.add_zero] at c0
        clear hce
        cases h2 : entOk e
        · rw [h2] at HRE
          clear h2
          obtain ⟨a0, a1, a2, a3, a4, a5, a6, a7, a8, a9, a10, a11, a12, a13⟩ := e
          dsimp only [Ent.cells] at *
          go_wp2_with fail
          refine Calls.mono (HRE.out _) ?_
          rintro e w3 ⟨rfl, hb3⟩
          have hs3 := hb3.size
          try simp at hs3
          have HB3 := Lib.hid hb3
          clear hb3
          go_wp2
          go_roundw
          case rel => exact ⟨k + 1, by omega, by omega, by go_num, (by repeat' (first | (with_reducible exact Below.refl _ _) | (with_reducible (refine Below.setCell ?_ ?_ _)) | (with_reducible (refine Below.alloc ?_ ?_ _)) | (with_reducible (refine Below.drew ?_)) | (with_reducible (refine below_via ?_ HB3.out ?_)) | (with_reducible (refine below_via ?_ HBW.out ?_)) | omega | (simp; done) | (simp; omega)))⟩
          case measure => simp [intOf]; omega
        · obtain ⟨hn1, hn2, hn3, _⟩ := entOk_nums h2
          have HA := Lib.hid (fun (kd : Int) W (hk : 1 ≤ kd ∧ kd ≤ 6) => Takes_yes (i := ⟨kd, e.vmid, e.asid, e.page⟩) (e := e) (by unfold takesOk; rw [due_mine hk hn1 hn2 hn3, h2]; rfl) W)
          have HO := Lib.hid (fun (kd : Int) W (hk : 1 ≤ kd ∧ kd ≤ 6) => Takes_yes (i := ⟨kd, (e.vmid + 1) % 16, e.asid, e.page⟩) (e := e) (by unfold takesOk; rw [due_mine hk ⟨by omega, by omega⟩ hn2 hn3, h2]; rfl) W)
          have HF := Lib.hid (fun (kd : Int) W (hk : 1 ≤ kd ∧ kd ≤ 6) => Takes_yes (i := ⟨kd, e.vmid, e.asid, 4095 - e.page⟩) (e := e) (by unfold takesOk; rw [due_mine hk hn1 hn2 ⟨by omega, by omega⟩, h2]; rfl) W)
          have HKA := Lib.hid (fun (kd : Int) (hk : 1 ≤ kd ∧ kd ≤ 6) => kinds_a h2 hk)
          have HKB := Lib.hid (fun (kd : Int) (hk : 1 ≤ kd ∧ kd ≤ 6) => kinds_b (e := e) hk hn1 e.asid e.page)
          have HKD := Lib.hid (fun (kd : Int) hk => kinds_d (e := e) (kd := kd) e.vmid e.asid hk)
          have HKK := Lib.hid (entOk_parts h2).2.1
          rw [h2] at HRE
          clear h2
          obtain ⟨ke, vm, asd, al, pe, level, frame, mid, r, dw, x, af, ng, soft⟩ := e
          dsimp only [Ent.cells, Inv.cells] at *
          have hw1 : IntKind.i64.wrap (vm + 1) = vm + 1 := IntWalk.i64_in _ (by omega)
          have htm : (vm + 1).tmod 16 = (vm + 1) % 16 := Int.tmod_eq_emod_of_nonneg (by omega)
          have hw2 : IntKind.i64.wrap ((vm + 1) % 16) = (vm + 1) % 16 := IntWalk.i64_in _ (by omega)
          have hw3 : IntKind.i64.wrap (4095 - pe) = 4095 - pe := IntWalk.i64_in _ (by omega)
          go_wp2_with fail
          refine Calls.mono (HRE.out _) ?_
          rintro e w3 ⟨rfl, hb3⟩
          have hs3 := hb3.size
          try simp at hs3
          have hc3_0 := fun o => (bcell hb3).1 (wr.heap.size) o (by first | omega | (simp; done) | (simp; omega))
          have hf3_0 := fun o => (bcell hb3).2.1 (wr.heap.size) o (by first | omega | (simp; done) | (simp; omega))
          have hz3_0 := (bcell hb3).2.2 (wr.heap.size) (by first | omega | (simp; done) | (simp; omega))
          have HB3 := Lib.hid hb3
          clear hb3
          go_wp2_with fail
          have HXE := Lib.hid (show w3.heap[wr.heap.size]? = some (.cells #[.int .i64 ke, .int .i64 vm, .int .i64 asd, .bool al, .int .i64 pe, .int .i64 level, .int .i64 frame, .int .i64 mid, .bool r, .bool dw, .bool x, .bool af, .bool ng, .int .i64 soft] entT (0, 0)) from (by repeat (first | (with_reducible assumption) | (with_reducible refine heap_below_is HB3.out (by (first | omega | (simp; done) | (simp; omega))) ?_) | (exact heap_at _ _ (by simp; done)) | (with_reducible refine heap_old_is _ _ (by (first | omega | (simp; done) | (simp; omega))) ?_) | (with_reducible refine heap_far_is (by (first | omega | (simp; done) | (simp; omega))) ?_))))
          clear c0 c1 c2 c3 c4 c5 c6 c7 c8 c9 c10 c11 c12 c13 hc3_0 hf3_0 hz3_0 e2 ef
          have hxe := heap_lt HXE.out
          obtain ⟨wo, rfl⟩ : ∃ wo : World, wo = wr := ⟨_, rfl⟩
          go_loopg [5] 6 (fun gg j wr => ∃ kd : Int, 1 ≤ kd ∧ kd ≤ 7 ∧ gg = (7 - kd).toNat ∧ j = .int .i64 kd ∧ Below w3.heap.size w3 wr)
          case atStart => exact ⟨1, by omega, by omega, rfl, rfl, Below.refl _ _⟩
          case round =>
            obtain ⟨kd, hd1, hd7, hgk, rfl, hbv⟩ := hrel
            have HGK := Lib.hid hgk
            have HBV := Lib.hid hbv
            have hsv := hbv.size
            have HXV := Lib.hid ((hbv.block _ hxe).trans HXE.out)
            clear hbv hgk
            by_cases h6 : kd ≤ 6
            · have cx := fun j => cell_of_row _ _ j _ _ _ HXV.out
              have cf := fun j => frozen_of_row _ _ j _ _ HXV.out
              have hxv := heap_lt HXV.out
              have HA1 := Lib.hid (fun W => HA.out kd W ⟨hd1, h6⟩)
              have HO1 := Lib.hid (fun W => HO.out kd W ⟨hd1, h6⟩)
              have HF1 := Lib.hid (fun W => HF.out kd W ⟨hd1, h6⟩)
              rw [HKA.out kd ⟨hd1, h6⟩] at HA1
              rw [HKB.out kd ⟨hd1, h6⟩] at HO1
              obtain ⟨ta_, hta⟩ : ∃ t, wantE kd ke al = t := ⟨_, rfl⟩
              rw [hta] at HA1
              have HTA := Lib.hid hta
              obtain ⟨td, htd⟩ : ∃ t, takesE ⟨kd, vm, asd, 4095 - pe⟩ ⟨ke, vm, asd, al, pe, level, frame, mid, r, dw, x, af, ng, soft⟩ = t := ⟨_, rfl⟩
              rw [htd] at HF1
              have HTD := Lib.hid htd
              clear hta htd
              go_wp2_with fail
              refine Calls.mono (HA1.out _) ?_
              rintro e w4 ⟨rfl, hb4⟩
              have hs4 := hb4.size
              try simp at hs4
              have hc4_0 := fun o => (bcell hb4).1 (wo.heap.size) o (by first | omega | (simp; done) | (simp; omega))
              have hf4_0 := fun o => (bcell hb4).2.1 (wo.heap.size) o (by first | omega | (simp; done) | (simp; omega))
              have hz4_0 := (bcell hb4).2.2 (wo.heap.size) (by first | omega | (simp; done) | (simp; omega))
              have hc4_1 := fun o => (bcell hb4).1 (wr.heap.size) o (by first | omega | (simp; done) | (simp; omega))
              have hf4_1 := fun o => (bcell hb4).2.1 (wr.heap.size) o (by first | omega | (simp; done) | (simp; omega))
              have hz4_1 := (bcell hb4).2.2 (wr.heap.size) (by first | omega | (simp; done) | (simp; omega))
              have HB4 := Lib.hid hb4
              clear hb4
              go_wp2_with fail
              refine Calls.mono (HO1.out _) ?_
              rintro e w5 ⟨rfl, hb5⟩
              have hs5 := hb5.size
              try simp at hs5
              have hc5_0 := fun o => (bcell hb5).1 (wo.heap.size) o (by first | omega | (simp; done) | (simp; omega))
              have hf5_0 := fun o => (bcell hb5).2.1 (wo.heap.size) o (by first | omega | (simp; done) | (simp; omega))
              have hz5_0 := (bcell hb5).2.2 (wo.heap.size) (by first | omega | (simp; done) | (simp; omega))
              have hc5_1 := fun o => (bcell hb5).1 (wr.heap.size) o (by first | omega | (simp; done) | (simp; omega))
              have hf5_1 := fun o => (bcell hb5).2.1 (wr.heap.size) o (by first | omega | (simp; done) | (simp; omega))
              have hz5_1 := (bcell hb5).2.2 (wr.heap.size) (by first | omega | (simp; done) | (simp; omega))
              have HB5 := Lib.hid hb5
              clear hb5
              go_wp2_with fail
              refine Calls.mono (HF1.out _) ?_
              rintro e w6 ⟨rfl, hb6⟩
              have hs6 := hb6.size
              try simp at hs6
              have hc6_0 := fun o => (bcell hb6).1 (wo.heap.size) o (by first | omega | (simp; done) | (simp; omega))
              have hf6_0 := fun o => (bcell hb6).2.1 (wo.heap.size) o (by first | omega | (simp; done) | (simp; omega))
              have hz6_0 := (bcell hb6).2.2 (wo.heap.size) (by first | omega | (simp; done) | (simp; omega))
              have HB6 := Lib.hid hb6
              clear hb6
              have HX6 := Lib.hid (show w6.heap[wo.heap.size]? = some (.cells #[.int .i64 ke, .int .i64 vm, .int .i64 asd, .bool al, .int .i64 pe, .int .i64 level, .int .i64 frame, .int .i64 mid, .bool r, .bool dw, .bool x, .bool af, .bool ng, .int .i64 soft] entT (0, 0)) from (by repeat (first | (with_reducible assumption) | (with_reducible exact HXV.out) | (with_reducible refine heap_below_is HB6.out (by (first | omega | (simp; done) | (simp; omega))) ?_) | (with_reducible refine heap_below_is HB5.out (by (first | omega | (simp; done) | (simp; omega))) ?_) | (with_reducible refine heap_below_is HB4.out (by (first | omega | (simp; done) | (simp; omega))) ?_) | (exact heap_at _ _ (by simp; done)) | (with_reducible refine heap_old_is _ _ (by (first | omega | (simp; done) | (simp; omega))) ?_) | (with_reducible refine heap_far_is (by (first | omega | (simp; done) | (simp; omega))) ?_))))
              have c6 := fun j => cell_of_row _ _ j _ _ _ HX6.out
              have f6 := fun j => frozen_of_row _ _ j _ _ HX6.out
              clear hc6_0 hf6_0
              go_upto_region 22 with (first | (go_at_call 24; refine (HNU.out _ _).mono ?_; rintro e w' ⟨rfl, rfl⟩))
              clear hw1 htm hw2 hw3
              have hcase : kd = 1 ∨ kd = 2 ∨ kd = 3 ∨ kd = 4 ∨ kd = 5 ∨ kd = 6 := by omega
              have HCS := Lib.hid hcase
              clear HRE HA HO HF HA1 HO1 HF1 HKA HKB hcase
              generalize hmid : (ke == (2 : Int)) = md
              have HM := Lib.hid hmid
              clear hmid
              go_cut [16] from 38 to 157 (fun v wc => v = .bool (wantE kd ke al) ∧ w6 = wc)
              case first =>
                rcases HCS.out with rfl | rfl | rfl | rfl | rfl | rfl
                · as_aux_lemma =>
                  go_wp2
                  go_meet
                  case rel => exact ⟨by unfold wantE; rfl, rfl⟩
                · as_aux_lemma =>
                  go_wp2
                  go_meet
                  case rel => exact ⟨by unfold wantE; rfl, rfl⟩
                · as_aux_lemma =>
                  cases md <;>
                  · go_wp2
                    go_meet
                    case rel => exact ⟨by unfold wantE; rw [HM.out]; cases al <;> rfl, rfl⟩
                · as_aux_lemma =>
                  cases md <;> cases al <;>
                  · go_wp2
                    go_meet
                    case rel => exact ⟨by unfold wantE; rw [HM.out]; rfl, rfl⟩
                · as_aux_lemma =>
                  cases md <;>
                  · go_wp2
                    go_meet
                    case rel => exact ⟨by unfold wantE; rw [HM.out]; cases al <;> rfl, rfl⟩
                · as_aux_lemma =>
                  cases md <;>
                  · go_wp2
                    go_meet
                    case rel => exact ⟨by unfold wantE; rw [HM.out]; cases al <;> rfl, rfl⟩
              case rest =>
                obtain ⟨rfl, rfl⟩ := hcut
                rw [HTA.out]
                have hne : (ta_ != ta_) = false := by simp
                cases td
                · as_aux_lemma =>
                  go_wp2
                  go_roundg (7 - (kd + 1)).toNat
                  case rel => exact ⟨kd + 1, by omega, by omega, rfl, rfl, (by repeat' (first | (with_reducible exact Below.refl _ _) | (with_reducible (refine Below.setCell ?_ ?_ _)) | (with_reducible (refine Below.alloc ?_ ?_ _)) | (with_reducible (refine Below.drew ?_)) | (with_reducible (refine below_via ?_ HB6.out ?_)) | (with_reducible (refine below_via ?_ HB5.out ?_)) | (with_reducible (refine below_via ?_ HB4.out ?_)) | (with_reducible (refine below_via ?_ HBV.out ?_)) | omega | (simp; done) | (simp; omega)))⟩
                  case measure => have := HGK.out; omega
                · by_cases hk4 : kd ≤ 4
                  · as_aux_lemma =>
                    have q6 : (kd == 6) = false := by simp; omega
                    have q5 : (kd == 5) = false := by simp; omega
                    go_wp2
                    go_roundg (7 - (kd + 1)).toNat
                    case rel => exact ⟨kd + 1, by omega, by omega, rfl, rfl, (by repeat' (first | (with_reducible exact Below.refl _ _) | (with_reducible (refine Below.setCell ?_ ?_ _)) | (with_reducible (refine Below.alloc ?_ ?_ _)) | (with_reducible (refine Below.drew ?_)) | (with_reducible (refine below_via ?_ HB6.out ?_)) | (with_reducible (refine below_via ?_ HB5.out ?_)) | (with_reducible (refine below_via ?_ HB4.out ?_)) | (with_reducible (refine below_via ?_ HBV.out ?_)) | omega | (simp; done) | (simp; omega)))⟩
                    case measure => have := HGK.out; omega
                  · by_cases hk5 : kd = 5
                    · as_aux_lemma =>
                      subst hk5
                      by_cases hk1 : ke = 1
                      · have := HTD.out.symm.trans (HKD.out _ (Or.inr ⟨rfl, hk1⟩))
                        cases this
                      · have q1 : (ke == 1) = false := by simpa using hk1
                        go_wp2
                        go_roundg 1
                        case rel => exact ⟨6, by omega, by omega, rfl, rfl, (by repeat' (first | (with_reducible exact Below.refl _ _) | (with_reducible (refine Below.setCell ?_ ?_ _)) | (with_reducible (refine Below.alloc ?_ ?_ _)) | (with_reducible (refine Below.drew ?_)) | (with_reducible (refine below_via ?_ HB6.out ?_)) | (with_reducible (refine below_via ?_ HB5.out ?_)) | (with_reducible (refine below_via ?_ HB4.out ?_)) | (with_reducible (refine below_via ?_ HBV.out ?_)) | omega | (simp; done) | (simp; omega)))⟩
                        case measure => have := HGK.out; omega
                    · obtain rfl : kd = 6 := by omega
                      have := HTD.out.symm.trans (HKD.out _ (Or.inl rfl))
                      cases this
            · obtain rfl : kd = 7 := by omega
              go_wp2
              go_roundw
              case rel => exact ⟨k + 1, by omega, by omega, by go_num, (by repeat' (first | (with_reducible exact Below.refl _ _) | (with_reducible (refine Below.setCell ?_ ?_ _)) | (with_reducible (refine Below.alloc ?_ ?_ _)) | (with_reducible (refine Below.drew ?_)) | (with_reducible (refine below_via ?_ HBV.out ?_)) | (with_reducible (refine below_via ?_ HB3.out ?_)) | (with_reducible (refine below_via ?_ HBW.out ?_)) | omega | (simp; done) | (simp; omega)))⟩
              case measure => simp [intOf]; omega
      · by_cases hka : k < es.length
        · obtain rfl : k = 12 := by omega
          have hki : (12 : Int) < es.length := by omega
          go_wp2_with fail
          refine Calls.mono (HWA.out _) ?_
          rintro e w5 ⟨rfl, hb5⟩
          have hs5 := hb5.size
          try simp at hs5
          have HB5 := Lib.hid hb5
          clear hb5
          go_wp2
          go_ret
          exact ⟨rfl, (by repeat' (first | (with_reducible exact Below.refl _ _) | (with_reducible (refine Below.setCell ?_ ?_ _)) | (with_reducible (refine Below.alloc ?_ ?_ _)) | (with_reducible (refine Below.drew ?_)) | (with_reducible (refine below_via ?_ HB5.out ?_)) | (with_reducible (refine below_via ?_ HBW.out ?_)) | (with_reducible (refine below_via ?_ HB.out ?_)) | omega | (simp; done) | (simp; omega)))⟩
        · have hki : ¬ (k : Int) < es.length := by omega
          go_wp2_with fail
          refine Calls.mono (HWA.out _) ?_
          rintro e w5 ⟨rfl, hb5⟩
          have hs5 := hb5.size
          try simp at hs5
          have HB5 := Lib.hid hb5
          clear hb5
          go_wp2
          go_ret
          exact ⟨rfl, (by repeat' (first | (with_reducible exact Below.refl _ _) | (with_reducible (refine Below.setCell ?_ ?_ _)) | (with_reducible (refine Below.alloc ?_ ?_ _)) | (with_reducible (refine Below.drew ?_)) | (with_reducible (refine below_via ?_ HB5.out ?_)) | (with_reducible (refine below_via ?_ HBW.out ?_)) | (with_reducible (refine below_via ?_ HB.out ?_)) | omega | (simp; done) | (simp; omega)))⟩

end Go.Proofs.Ytbaninglcafhhaa
