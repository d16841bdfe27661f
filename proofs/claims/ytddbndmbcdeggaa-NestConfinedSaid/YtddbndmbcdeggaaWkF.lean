/-
  The program's walk, whatever is asked. Conditions: the memory reads as such.
-/
import Derived.Test.YtddbndmbcdeggaaWkE
import Derived.Test.YtddbndmbcdeggaaPut2
import Derived.Deep.DeepCutAuto
namespace Go.Proofs.Ytddbndmbcdeggaa
open Go.RowKit

/-- May a walk be asked for? -/
def walkOk (n : Nat) (stage frame page : Int) : Bool := memOk n && ((stage == 1 || stage == 2) && (numOk frame 4095 && numOk page 4095))
def walkRes (ws : List Int) (stage frame page : Int) : Ht × Ft × List Int := if walkOk ws.length stage frame page then walkOf ws stage frame page else (noHt, noFt, [])
def walkEr (n : Nat) (stage frame page : Int) : Int := if walkOk n stage frame page then 0 else 1

set_option maxRecDepth 100000 in
set_option maxHeartbeats 16000000 in
theorem Walk_any (A : Option Addr) (c : Nat) (ws : List Int) (stage frame page : Int) (w : World) (hA : MeAt w A c ws) :
    Calls Try.prog 23 #[.agg #[.slice A ws.length c], .int .i64 stage, .int .i64 frame, .int .i64 page] w
      (WPost w (walkRes ws stage frame page).1.cells.toArray (walkRes ws stage frame page).2.1.cells.toArray [.int .i64 (walkEr ws.length stage frame page)] (walkRes ws stage frame page).2.2) := by
  have HA := Lib.hid hA
  have hlen := hA.len
  obtain ⟨g, hg⟩ : ∃ g, memOk ws.length = g := ⟨_, rfl⟩
  have HC := Lib.hid (fun W => memCheck_any A ws.length c W (by omega) g hg)
  obtain ⟨ok, hok⟩ : ∃ b, walkOk ws.length stage frame page = b := ⟨_, rfl⟩
  have hok2 := hok
  unfold walkOk at hok2
  rw [hg] at hok2
  have HOK := Lib.hid hok2
  have HG := Lib.hid hg
  unfold walkRes walkEr
  rw [hok]
  clear hA hg hok hok2
  obtain ⟨n, hn⟩ : ∃ n, ws.length = n := ⟨_, rfl⟩
  have HN := Lib.hid hn
  rw [hn] at HC hlen ⊢
  clear hn
  go_enter Try.func23, Try.ntmps23
  go_upto_region 1 with fail
  refine name_world ?_
  intro w1 hw1
  have H4 := Lib.hid (show w1.heap[w.heap.size]? = some (.cells #[.slice A n c] 24 (0, 0)) by rw [hw1]; exact (by repeat (first | (with_reducible assumption) | (exact heap_at _ _ (by simp; done)) | (with_reducible refine heap_old_is _ _ (by (first | omega | (simp; done) | (simp; omega))) ?_) | (with_reducible refine heap_far_is (by (first | omega | (simp; done) | (simp; omega))) ?_))))
  have H8 := Lib.hid (show w1.heap[w.heap.size + 1]? = some (.cells zHit hitT (0, 0)) by rw [hw1]; exact (by repeat (first | (with_reducible assumption) | (exact heap_at _ _ (by simp; done)) | (with_reducible refine heap_old_is _ _ (by (first | omega | (simp; done) | (simp; omega))) ?_) | (with_reducible refine heap_far_is (by (first | omega | (simp; done) | (simp; omega))) ?_))))
  have H9 := Lib.hid (show w1.heap[w.heap.size + 2]? = some (.cells zFault faultT (0, 0)) by rw [hw1]; exact (by repeat (first | (with_reducible assumption) | (exact heap_at _ _ (by simp; done)) | (with_reducible refine heap_old_is _ _ (by (first | omega | (simp; done) | (simp; omega))) ?_) | (with_reducible refine heap_far_is (by (first | omega | (simp; done) | (simp; omega))) ?_))))
  have HB1 := Lib.hid (show Below w.heap.size w w1 by rw [hw1]; repeat' (first | (with_reducible exact Below.refl _ _) | (with_reducible (refine Below.setCell ?_ ?_ _)) | (with_reducible (refine Below.alloc ?_ ?_ _)) | (with_reducible (refine Below.drew ?_)) | omega | (simp; done) | (simp; omega)))
  have hs1 : w.heap.size + 3 ≤ w1.heap.size := by rw [hw1]; simp
  clear hw1
  have x4 := fun j => cell_of_row _ _ j _ _ _ H4.out
  have xf4 := fun j => frozen_of_row _ _ j _ _ H4.out
  have hl4 := heap_lt H4.out
 
  go_cut [39] from 39 to 39 (fun v W => v = .bool (!ok) ∧ Below w1.heap.size w1 W)
  case first =>
    cases g
    · have hk : ok = false := by rw [← HOK.out]; rfl
      subst hk
      go_wp2_with fail
      refine Calls.mono (HC.out _) ?_
      rintro e w2 ⟨rfl, hb2⟩
      have hs2 := hb2.size
      try simp at hs2
      have HB2 := Lib.hid hb2
      clear hb2
      go_wp2_with fail
      go_meet
      case rel => exact ⟨rfl, HB2.out⟩
    · by_cases hs : stage = 1 ∨ stage = 2
      · by_cases hf0 : frame < 0
        · have hk : ok = false := by
            rw [← HOK.out]
            rw [show numOk frame 4095 = false by unfold numOk; simp; omega]
            simp
          have q0 : decide (frame < 0) = true := by simpa using hf0
          subst hk
          rcases hs with rfl | rfl
          all_goals
            go_wp2_with fail
            refine Calls.mono (HC.out _) ?_
            rintro e w2 ⟨rfl, hb2⟩
            have hs2 := hb2.size
            try simp at hs2
            have HB2 := Lib.hid hb2
            clear hb2
            go_wp2_with fail
            go_meet
            case rel => exact ⟨rfl, HB2.out⟩
        · have q0 : decide (frame < 0) = false := by simpa using hf0
          by_cases hf1 : 4095 < frame
          · have hk : ok = false := by
              rw [← HOK.out]
              rw [show numOk frame 4095 = false by unfold numOk; simp; omega]
              simp
            have q1 : decide (4095 < frame) = true := by simpa using hf1
            subst hk
            rcases hs with rfl | rfl
            all_goals
              go_wp2_with fail
              refine Calls.mono (HC.out _) ?_
              rintro e w2 ⟨rfl, hb2⟩
              have hs2 := hb2.size
              try simp at hs2
              have HB2 := Lib.hid hb2
              clear hb2
              go_wp2_with fail
              go_meet
              case rel => exact ⟨rfl, HB2.out⟩
          · have q1 : decide (4095 < frame) = false := by simpa using hf1
            by_cases hp0 : page < 0
            · have hk : ok = false := by
                rw [← HOK.out]
                rw [show numOk page 4095 = false by unfold numOk; simp; omega]
                simp
              have q2 : decide (page < 0) = true := by simpa using hp0
              subst hk
              rcases hs with rfl | rfl
              all_goals
                go_wp2_with fail
                refine Calls.mono (HC.out _) ?_
                rintro e w2 ⟨rfl, hb2⟩
                have hs2 := hb2.size
                try simp at hs2
                have HB2 := Lib.hid hb2
                clear hb2
                go_wp2_with fail
                go_meet
                case rel => exact ⟨rfl, HB2.out⟩
            · have q2 : decide (page < 0) = false := by simpa using hp0
              by_cases hp1 : 4095 < page
              · have hk : ok = false := by
                  rw [← HOK.out]
                  rw [show numOk page 4095 = false by unfold numOk; simp; omega]
                  simp
                have q3 : decide (4095 < page) = true := by simpa using hp1
                subst hk
                rcases hs with rfl | rfl
                all_goals
                  go_wp2_with fail
                  refine Calls.mono (HC.out _) ?_
                  rintro e w2 ⟨rfl, hb2⟩
                  have hs2 := hb2.size
                  try simp at hs2
                  have HB2 := Lib.hid hb2
                  clear hb2
                  go_wp2_with fail
                  go_meet
                  case rel => exact ⟨rfl, HB2.out⟩
              · have q3 : decide (4095 < page) = false := by simpa using hp1
                have hk : ok = true := by
                  rw [← HOK.out]
                  rw [show numOk frame 4095 = true by unfold numOk; simp; omega, show numOk page 4095 = true by unfold numOk; simp; omega]
                  rcases hs with rfl | rfl <;> rfl
                subst hk
                rcases hs with rfl | rfl
                all_goals
                  go_wp2_with fail
                  refine Calls.mono (HC.out _) ?_
                  rintro e w2 ⟨rfl, hb2⟩
                  have hs2 := hb2.size
                  try simp at hs2
                  have HB2 := Lib.hid hb2
                  clear hb2
                  go_wp2_with fail
                  go_meet
                  case rel => exact ⟨rfl, HB2.out⟩
      · have hk : ok = false := by
          rw [← HOK.out]
          rw [show (stage == 1 || stage == 2) = false by simp; omega]
          simp
        have q1 : (stage != 1) = true := by simp; omega
        have q2 : (stage != 2) = true := by simp; omega
        subst hk
        go_wp2_with fail
        refine Calls.mono (HC.out _) ?_
        rintro e w2 ⟨rfl, hb2⟩
        have hs2 := hb2.size
        try simp at hs2
        have HB2 := Lib.hid hb2
        clear hb2
        go_wp2_with fail
        go_meet
        case rel => exact ⟨rfl, HB2.out⟩
  case rest =>
    obtain ⟨rfl, hbc⟩ := hcut
    obtain ⟨wd, rfl⟩ : ∃ wd : World, wd = wc := ⟨_, rfl⟩
    have HBD := Lib.hid (show Below w.heap.size w wd from (by repeat' (first | (with_reducible exact Below.refl _ _) | (with_reducible (refine Below.setCell ?_ ?_ _)) | (with_reducible (refine Below.alloc ?_ ?_ _)) | (with_reducible (refine Below.drew ?_)) | (with_reducible (refine below_via ?_ hbc ?_)) | (with_reducible (refine below_via ?_ HB1.out ?_)) | omega | (simp; done) | (simp; omega))))
    have D4 := Lib.hid ((hbc.block _ hl4).trans H4.out)
    have D8 := Lib.hid ((hbc.block _ (by omega)).trans H8.out)
    have D9 := Lib.hid ((hbc.block _ (by omega)).trans H9.out)
    have hsd := hbc.size
    clear hbc x4 xf4 H4 H8 H9
    have hsd3 : w.heap.size + 3 ≤ wd.heap.size := by omega
    cases ok
    ·
      try simp only [Bool.false_eq_true, if_false]
      go_upto_region 2 with fail
      refine name_world ?_
      intro we hwe
      subst hwe
      refine wp_region_done (fun d w9 => Put2C (we) 2 (w.heap.size + 1) (hitT) (#[.int .i64 0, .int .i64 0, .bool false, .bool false, .bool false, .bool false, .bool false, .int .i64 0, .int .i64 0]) (#[.int .i64 0, .int .i64 0, .bool false, .bool false, .bool false, .bool false, .bool false, .int .i64 0, .int .i64 0]) 3 (w.heap.size + 2) (faultT) (#[.int .i64 0, .int .i64 0, .int .i64 0, .bool false, .int .i64 0]) (#[.int .i64 0, .int .i64 0, .int .i64 0, .bool false, .int .i64 0]) d w9) (by kernel_rfl) (by kernel_rfl) (put2_start (D8.out) (D9.out)) ?_
      repeat (first
        | (refine wpLex_pass (by rfl) (passes_put2 (by rfl) (by rfl)) ?_; (conv => arg 9; simp only [put_lit, put_lit_none, List.set]))
        | (refine wpLex_put2 (by rfl) (by rfl) (by rfl) ?_
           apply Exists.intro
           refine ⟨?_, ?_⟩
           · intro w' hsz hkw hz1 hz2
             try (replace hz1 := hz1 rfl; have hzc1 := fun j => cell_of_row _ _ j _ _ _ hz1; have hzf1 := fun j => frozen_of_row _ _ j _ _ hz1)
             try (replace hz2 := hz2 rfl; have hzc2 := fun j => cell_of_row _ _ j _ _ _ hz2; have hzf2 := fun j => frozen_of_row _ _ j _ _ hz2)
             clear hkw
             try clear hz1
             try clear hz2
             go_simp
             first
               | exact ⟨rfl, Below.refl _ _⟩
               | exact Below.refl _ _
           conv => arg 9; simp only [put_lit, put_lit_none, List.set])
        | (refine wpLex_put2a (by rfl) (by rfl) (by rfl) (by omega) undef ?_ ?_
           · intro w' hz
             have hzc := fun j => cell_of_row _ _ j _ _ _ hz
             have hzf := fun j => frozen_of_row _ _ j _ _ hz
             go_simp
             exact ⟨(by repeat' (first | (with_reducible exact Below.refl _ _) | (with_reducible (refine Below.setCell ?_ ?_ _)) | omega | (simp; done))), (fun x hx => by repeat (rw [heap_set_other (by exact hx)])), (by simp [World.setCell, Array.getElem?_modify, hz])⟩
           conv => arg 9; simp only [put_lit, put_lit_none, List.set])
        | (refine wpLex_put2b (by rfl) (by rfl) (by rfl) (by omega) undef ?_ ?_
           · intro w' hz
             have hzc := fun j => cell_of_row _ _ j _ _ _ hz
             have hzf := fun j => frozen_of_row _ _ j _ _ hz
             go_simp
             exact ⟨(by repeat' (first | (with_reducible exact Below.refl _ _) | (with_reducible (refine Below.setCell ?_ ?_ _)) | omega | (simp; done))), (fun x hx => by repeat (rw [heap_set_other (by exact hx)])), (by simp [World.setCell, Array.getElem?_modify, hz])⟩
           conv => arg 9; simp only [put_lit, put_lit_none, List.set]))
      refine wpLex_nil ?_
      intro wt dt hdt hCt
      obtain ⟨hbt, hkt, hxt, hyt⟩ := put2_done hCt (hdt 2 (by decide)) (hdt 3 (by decide))
      clear hCt hdt
      have hst := hbt.size
      have HBt := Lib.hid hbt
      have HKt := Lib.hid hkt
      have HXt := Lib.hid hxt
      have HYt := Lib.hid hyt
      clear hbt hkt hxt hyt
      have e8 := fun j => cell_of_row _ _ j _ _ _ HXt.out
      have e9 := fun j => cell_of_row _ _ j _ _ _ HYt.out
      go_wp2
      refine bodyPost_ret (v := .tuple #[.agg noHt.cells.toArray, .agg noFt.cells.toArray, .slice none 0 0, .int .i64 1]) (by simp [noHt, noFt, Ht.cells, Ft.cells, results, Try.results23, go_sem, *]) rfl ⟨none, 0, rfl, World.ownsRow_nil _ _ _ _, below_via HBD.out HBt.out (by omega)⟩
    · try simp only [if_true]
      have hf : memOk ws.length = true ∧ (stage = 1 ∨ stage = 2) ∧ 0 ≤ frame ∧ frame ≤ 4095 ∧ 0 ≤ page ∧ page ≤ 4095 := by
        have h1 := HOK.out
        unfold numOk at h1
        simp only [Bool.and_eq_true, decide_eq_true_eq, Bool.or_eq_true, beq_iff_eq] at h1
        exact ⟨by rw [HG.out]; exact h1.1, h1.2.1, h1.2.2.1.1, h1.2.2.1.2, h1.2.2.2.1, h1.2.2.2.2⟩
      obtain ⟨hm, hs, hf0, hf1, hp0, hp1⟩ := hf
      have HF := Lib.hid (fun (W : World) (hW : W = wd.alloc (.cells (wayRow A n c stage page none 0 0) wayT)) => by
        subst hW
        have h := wFrom_any wd.heap.size A c ws stage frame page wd (wd.alloc (.cells (wayRow A n c stage page none 0 0) wayT)) (HA.out.below HBD.out) (Nat.le_refl _) ((Below.refl _ _).alloc (Nat.le_refl _) _) hm hs hp0 hp1 hf0 (by rw [HN.out]; exact heap_new _ _)
        rw [HN.out] at h
        exact h)
      clear hm hs hf0 hf1 hp0 hp1
      generalize walkOf ws stage frame page = res at *
      obtain ⟨⟨l0, l1, l2, l3, l4, l5, l6, l7, l8⟩, ⟨m0, m1, m2, m3, m4⟩, rd⟩ := res
      unfold FromPost at HF
      dsimp only [Ht.cells, Ft.cells] at HF ⊢
      have x4 := fun j => cell_of_row _ _ j _ _ _ D4.out
      have xf4 := fun j => frozen_of_row _ _ j _ _ D4.out
      have hl4 := heap_lt D4.out
     
      go_wp2_with fail
      refine Calls.mono (HF.out _ rfl) ?_
      rintro e w5 ⟨R, cr, rfl, hx, ho, hb5⟩
      have hs5 := hb5.size
      try simp at hs5
      have HB5 := Lib.hid hb5
      clear hb5
      have Hhx := Lib.hid hx
      clear hx
      have Hho := Lib.hid ho
      clear ho
      have E8 := Lib.hid ((HB5.out.block _ (by omega)).trans ((heap_old _ _ (by omega)).trans D8.out))
      have E9 := Lib.hid ((HB5.out.block _ (by omega)).trans ((heap_old _ _ (by omega)).trans D9.out))
      have e8 := fun j => cell_of_row _ _ j _ _ _ E8.out
      have e9 := fun j => cell_of_row _ _ j _ _ _ E9.out
      have ef8 := fun j => frozen_of_row _ _ j _ _ E8.out
      have ef9 := fun j => frozen_of_row _ _ j _ _ E9.out
      have hl8 := heap_lt E8.out
      have hl9 := heap_lt E9.out
      simp only [zHit, zFault] at e8 e9
      clear x4 xf4
      go_upto_region 5 with fail
      refine name_world ?_
      intro w6 hw6
      have HZ := Lib.hid (below_via (HBD.out.alloc (by omega) _) HB5.out (by omega))
      have F8 := Lib.hid (show w6.heap[w.heap.size + 1]? = some (.cells #[.int .i64 l0, .int .i64 l1, .bool l2, .bool l3, .bool l4, .bool l5, .bool l6, .int .i64 l7, .int .i64 l8] hitT (0, 0)) by rw [hw6]; simp [World.setCell, Array.getElem?_modify, E8.out, zHit])
      have F9 := Lib.hid (show w6.heap[w.heap.size + 2]? = some (.cells #[.int .i64 m0, .int .i64 m1, .int .i64 m2, .bool m3, .int .i64 m4] faultT (0, 0)) by rw [hw6]; simp [World.setCell, Array.getElem?_modify, E9.out, zFault])
      have FW := Lib.hid (show w6.heap[wd.heap.size]? = some (.cells (wayRow A n c stage page R rd.length cr) wayT (0, 0)) by rw [hw6]; exact (by repeat (first | (with_reducible exact Hhx.out) | (with_reducible refine heap_far_is (by (first | (dsimp only; omega) | omega | (simp; done) | (simp; omega))) ?_))))
      have FO := Lib.hid (show Own w6 (wd.heap.size + 1) intT 1 intCells rd R cr by rw [hw6]; exact (by repeat (first | (with_reducible exact Hho.out) | (with_reducible refine Own.set_far ?_ (by (first | (dsimp only; omega) | omega | (simp; done) | (simp; omega))) _))))
      have FB := Lib.hid (show Below w.heap.size w w6 by rw [hw6]; exact (by repeat' (first | (with_reducible exact HZ.out) | (with_reducible refine Below.setCell ?_ ?_ _) | (first | (dsimp only; omega) | omega | (simp; done) | (simp; omega)))))
      have h6s : wd.heap.size < w6.heap.size := heap_lt FW.out
      clear hw6 e8 e9 ef8 ef9
      have y3 := cell_of_row _ _ 3 _ _ _ FW.out
      have yf := fun j => frozen_of_row _ _ j _ _ FW.out
      simp only [wayRow] at y3
      have hdne1 : wd.heap.size ≠ w.heap.size + 1 := by omega
      have hdne2 : wd.heap.size ≠ w.heap.size + 2 := by omega
     
      refine wp_region_done (fun d w9 => Put2C (w6) 6 (w.heap.size + 1) (hitT) (#[.int .i64 l0, .int .i64 l1, .bool l2, .bool l3, .bool l4, .bool l5, .bool l6, .int .i64 l7, .int .i64 l8]) (#[.int .i64 l0, .int .i64 l1, .bool l2, .bool l3, .bool l4, .bool l5, .bool l6, .int .i64 l7, .int .i64 l8]) 7 (w.heap.size + 2) (faultT) (#[.int .i64 m0, .int .i64 m1, .int .i64 m2, .bool m3, .int .i64 m4]) (#[.int .i64 m0, .int .i64 m1, .int .i64 m2, .bool m3, .int .i64 m4]) d w9) (by kernel_rfl) (by kernel_rfl) (put2_start (F8.out) (F9.out)) ?_
      repeat (first
        | (refine wpLex_pass (by rfl) (passes_put2 (by rfl) (by rfl)) ?_; (conv => arg 9; simp only [put_lit, put_lit_none, List.set]))
        | (refine wpLex_put2 (by rfl) (by rfl) (by rfl) ?_
           apply Exists.intro
           refine ⟨?_, ?_⟩
           · intro w' hsz hkw hz1 hz2
             try (replace hz1 := hz1 rfl; have hzc1 := fun j => cell_of_row _ _ j _ _ _ hz1; have hzf1 := fun j => frozen_of_row _ _ j _ _ hz1)
             try (replace hz2 := hz2 rfl; have hzc2 := fun j => cell_of_row _ _ j _ _ _ hz2; have hzf2 := fun j => frozen_of_row _ _ j _ _ hz2)
             have q0_ := (hkw (wd.heap.size) (by omega) (by omega) (by omega)).trans ((show w6.heap[wd.heap.size]? = some (.cells #[.slice A n c, .int .i64 stage, .int .i64 page, .slice R rd.length cr] wayT (0, 0)) from FW.out)); have q0 := fun j => cell_of_row _ _ j _ _ _ q0_; have qf0 := fun j => frozen_of_row _ _ j _ _ q0_; clear q0_
             clear hkw
             try clear hz1
             try clear hz2
             go_simp
             first
               | exact ⟨rfl, Below.refl _ _⟩
               | exact Below.refl _ _
           conv => arg 9; simp only [put_lit, put_lit_none, List.set])
        | (refine wpLex_put2a (by rfl) (by rfl) (by rfl) (by omega) undef ?_ ?_
           · intro w' hz
             have hzc := fun j => cell_of_row _ _ j _ _ _ hz
             have hzf := fun j => frozen_of_row _ _ j _ _ hz
             go_simp
             exact ⟨(by repeat' (first | (with_reducible exact Below.refl _ _) | (with_reducible (refine Below.setCell ?_ ?_ _)) | omega | (simp; done))), (fun x hx => by repeat (rw [heap_set_other (by exact hx)])), (by simp [World.setCell, Array.getElem?_modify, hz])⟩
           conv => arg 9; simp only [put_lit, put_lit_none, List.set])
        | (refine wpLex_put2b (by rfl) (by rfl) (by rfl) (by omega) undef ?_ ?_
           · intro w' hz
             have hzc := fun j => cell_of_row _ _ j _ _ _ hz
             have hzf := fun j => frozen_of_row _ _ j _ _ hz
             go_simp
             exact ⟨(by repeat' (first | (with_reducible exact Below.refl _ _) | (with_reducible (refine Below.setCell ?_ ?_ _)) | omega | (simp; done))), (fun x hx => by repeat (rw [heap_set_other (by exact hx)])), (by simp [World.setCell, Array.getElem?_modify, hz])⟩
           conv => arg 9; simp only [put_lit, put_lit_none, List.set]))
      refine wpLex_nil ?_
      intro wt dt hdt hCt
      obtain ⟨hbt, hkt, hxt, hyt⟩ := put2_done hCt (hdt 6 (by decide)) (hdt 7 (by decide))
      clear hCt hdt
      have hst := hbt.size
      have HBt := Lib.hid hbt
      have HKt := Lib.hid hkt
      have HXt := Lib.hid hxt
      have HYt := Lib.hid hyt
      clear hbt hkt hxt hyt
      have e8 := fun j => cell_of_row _ _ j _ _ _ HXt.out
      have e9 := fun j => cell_of_row _ _ j _ _ _ HYt.out
      go_wp2
      refine bodyPost_ret (v := .tuple #[.agg #[.int .i64 l0, .int .i64 l1, .bool l2, .bool l3, .bool l4, .bool l5, .bool l6, .int .i64 l7, .int .i64 l8], .agg #[.int .i64 m0, .int .i64 m1, .int .i64 m2, .bool m3, .int .i64 m4], .slice R rd.length cr, .int .i64 0]) (by simp [results, Try.results23, go_sem, *]) rfl ⟨R, cr, rfl, ?_, below_via FB.out HBt.out (by omega)⟩
      exact (FO.out.keep fun x hx1 hx2 _ => HKt.out x hx2 (by omega) (by omega)).mono (by omega)

end Go.Proofs.Ytddbndmbcdeggaa
