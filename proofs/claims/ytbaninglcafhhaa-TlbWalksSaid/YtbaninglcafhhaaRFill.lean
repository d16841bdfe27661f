/-
  An entry more: the page's answer. Conditions: the lengths fit.
-/
import Derived.Test.YtbaninglcafhhaaFill
namespace Go.Proofs.Ytbaninglcafhhaa
open Go.RowKit

set_option maxRecDepth 100000 in
set_option maxHeartbeats 4000000 in
theorem rFill_any (t : Tl) (e : Ent) (w : World) (h : TlAt w t) (h1 : t.es.length ≤ 1000000) (h2 : t.ds.length ≤ 1000000) :
    Calls Try.prog 61 #[.agg t.cells.toArray, .agg e.cells.toArray] w fun y w' => ∃ A c B d, y = .returned (.agg #[.slice A (fillE t.es e).length c, .slice B t.ds.length d]) ∧
      Own w' (w.heap.size + 3) entT 14 Ent.cells (fillE t.es e) A c ∧ Own w' (w.heap.size + 3) invT 4 Inv.cells t.ds B d ∧ Below w.heap.size w w' := by
  have HCP := Lib.hid (fun W (hb : Below w.heap.size w W) => CopyTLB_any t W (h.below hb) h1 h2)
  have HCN := Lib.hid (fun W (hb : Below w.heap.size w W) => In_ent e t.ea t.ec t.es W (by omega) (h.eat.below hb))
  have HIX := Lib.hid (idx_cases (fun y => entEq y e) t.es)
  obtain ⟨es', hes⟩ : ∃ x, x = fillE t.es e := ⟨_, rfl⟩
  rw [← hes]
  unfold fillE at hes
  have HES := Lib.hid hes
  clear hes
  obtain ⟨i0, hi0, hz0, hz1, hz2⟩ := info_parts ent_info
  have HI0 := Lib.hid hi0
  have HZ0 := Lib.hid hz0
  have HZ1 := Lib.hid hz1
  have HZ2 := Lib.hid hz2
  clear hi0 hz0 hz1 hz2
  obtain ⟨ea, ec, es, da, dc, ds⟩ := t
  dsimp only [Tl.cells] at *
  rw [show (fun y => entEq y e) = entEq e by funext y; exact entEq_comm y e] at HCN HIX
  generalize idx (entEq e) es = ix at *
  obtain ⟨cn, hcn⟩ : ∃ x, es.any (entEq e) = x := ⟨_, rfl⟩
  rw [hcn] at HES HIX
  have HIY := Lib.hid (show (cn = true → (0 : Int) ≤ ix) ∧ (cn = false → ix = -1) from by
    rcases HIX.out with ⟨h3, h4⟩ | ⟨k, hk, h3, h4, h5⟩
    · exact ⟨fun h6 => (by rw [h4] at h6; cases h6), fun _ => h3⟩
    · refine ⟨fun _ => by omega, fun h6 => ?_⟩
      rw [h6, List.any_eq_false] at hcn
      exact absurd ((entEq_comm _ _).trans h4) (hcn _ (List.getElem_mem hk)))
  clear hcn HIX
  obtain ⟨a0, a1, a2, a3, a4, a5, a6, a7, a8, a9, a10, a11, a12, a13⟩ := e
  dsimp only [Ent.cells] at *
  have HH := Lib.hid (And.intro h1 h2)
  clear h
  go_enter Try.func61, Try.ntmps61
  go_wp2_with fail
  refine Calls.mono (HCP.out _ (by repeat' (first | (with_reducible exact Below.refl _ _) | (with_reducible (refine Below.setCell ?_ ?_ _)) | (with_reducible (refine Below.alloc ?_ ?_ _)) | (with_reducible (refine Below.drew ?_)) | omega | (simp; done) | (simp; omega)))) ?_
  rintro e w3 ⟨A, c, B, d, rfl, hown, howd, hb3⟩
  have hs3 := hb3.size
  try simp at hs3
  have hc3_0 := fun o => (bcell hb3).1 (w.heap.size) o (by first | omega | (simp; done) | (simp; omega))
  have hf3_0 := fun o => (bcell hb3).2.1 (w.heap.size) o (by first | omega | (simp; done) | (simp; omega))
  have hz3_0 := (bcell hb3).2.2 (w.heap.size) (by first | omega | (simp; done) | (simp; omega))
  have hc3_1 := fun o => (bcell hb3).1 (w.heap.size + 1) o (by first | omega | (simp; done) | (simp; omega))
  have hf3_1 := fun o => (bcell hb3).2.1 (w.heap.size + 1) o (by first | omega | (simp; done) | (simp; omega))
  have hz3_1 := (bcell hb3).2.2 (w.heap.size + 1) (by first | omega | (simp; done) | (simp; omega))
  have hc3_2 := fun o => (bcell hb3).1 (w.heap.size + 2) o (by first | omega | (simp; done) | (simp; omega))
  have hf3_2 := fun o => (bcell hb3).2.1 (w.heap.size + 2) o (by first | omega | (simp; done) | (simp; omega))
  have hz3_2 := (bcell hb3).2.2 (w.heap.size + 2) (by first | omega | (simp; done) | (simp; omega))
  have HB3 := Lib.hid hb3
  clear hb3
  have Hhown := Lib.hid hown
  clear hown
  have Hhowd := Lib.hid howd
  clear howd
  have HBX := Lib.hid (show Below w.heap.size w w3 from (by repeat' (first | (with_reducible exact Below.refl _ _) | (with_reducible (refine Below.setCell ?_ ?_ _)) | (with_reducible (refine Below.alloc ?_ ?_ _)) | (with_reducible (refine Below.drew ?_)) | (with_reducible (refine below_via ?_ HB3.out ?_)) | omega | (simp; done) | (simp; omega))))
  have hA3 : ∀ p : Addr, A = some p → p.block < w3.heap.size := fun p hp => (Hhown.out.block_ hp).2
  have HA3 := Lib.hid hA3
  clear hA3
  go_wp2_with fail
  refine Calls.mono (HCN.out _ (by repeat' (first | (with_reducible exact Below.refl _ _) | (with_reducible (refine Below.setCell ?_ ?_ _)) | (with_reducible (refine Below.alloc ?_ ?_ _)) | (with_reducible (refine Below.drew ?_)) | (with_reducible (refine below_via ?_ HBX.out ?_)) | omega | (simp; done) | (simp; omega)))) ?_
  rintro e w4 ⟨rfl, hb4⟩
  have hs4 := hb4.size
  try simp at hs4
  have hc4_0 := fun o => (bcell hb4).1 (w.heap.size) o (by first | omega | (simp; done) | (simp; omega))
  have hf4_0 := fun o => (bcell hb4).2.1 (w.heap.size) o (by first | omega | (simp; done) | (simp; omega))
  have hz4_0 := (bcell hb4).2.2 (w.heap.size) (by first | omega | (simp; done) | (simp; omega))
  have hc4_1 := fun o => (bcell hb4).1 (w.heap.size + 1) o (by first | omega | (simp; done) | (simp; omega))
  have hf4_1 := fun o => (bcell hb4).2.1 (w.heap.size + 1) o (by first | omega | (simp; done) | (simp; omega))
  have hz4_1 := (bcell hb4).2.2 (w.heap.size + 1) (by first | omega | (simp; done) | (simp; omega))
  have hc4_2 := fun o => (bcell hb4).1 (w.heap.size + 2) o (by first | omega | (simp; done) | (simp; omega))
  have hf4_2 := fun o => (bcell hb4).2.1 (w.heap.size + 2) o (by first | omega | (simp; done) | (simp; omega))
  have hz4_2 := (bcell hb4).2.2 (w.heap.size + 2) (by first | omega | (simp; done) | (simp; omega))
  have hc4_3 := fun o => (bcell hb4).1 (w3.heap.size) o (by first | omega | (simp; done) | (simp; omega))
  have hf4_3 := fun o => (bcell hb4).2.1 (w3.heap.size) o (by first | omega | (simp; done) | (simp; omega))
  have hz4_3 := (bcell hb4).2.2 (w3.heap.size) (by first | omega | (simp; done) | (simp; omega))
  have HB4 := Lib.hid hb4
  clear hb4
  cases cn
  · obtain rfl : ix = -1 := HIY.out.2 rfl
    clear HIY
    by_cases hlen : es.length < 8
    · have hl8 : decide ((es.length : Int) < 8) = true := by simp; omega
      have HE2 := Lib.hid (show es' = es ++ [⟨a0, a1, a2, a3, a4, a5, a6, a7, a8, a9, a10, a11, a12, a13⟩] by rw [HES.out]; simp [hlen])
      clear HES
      have HBY := Lib.hid (show w4.heap[w3.heap.size]? = some (.cells #[.slice A es.length c, .slice B ds.length d] tlbT (0, 0)) from (by repeat (first | (with_reducible assumption) | (with_reducible refine heap_below_is HB4.out (by (first | omega | (simp; done) | (simp; omega))) ?_) | (exact heap_at _ _ (by simp; done)) | (with_reducible refine heap_old_is _ _ (by (first | omega | (simp; done) | (simp; omega))) ?_) | (with_reducible refine heap_far_is (by (first | omega | (simp; done) | (simp; omega))) ?_))))
      have HO4 := Lib.hid (show Own w4 (w.heap.size + 3) entT 14 Ent.cells es A c from (by repeat (first | (with_reducible exact Own.mono Hhown.out (by (first | omega | (simp; done) | (simp; omega)))) | (with_reducible refine Own.set_far ?_ (by (first | omega | (simp; done) | (simp; omega))) _) | (with_reducible refine Own.alloc ?_ _) | (with_reducible refine Own.drew ?_) | (with_reducible refine Own.below ?_ HB4.out (by (first | omega | (simp; done) | (simp; omega)))))))
      have HI4 := Lib.hid (show Own w4 (w.heap.size + 3) invT 4 Inv.cells ds B d from (by repeat (first | (with_reducible exact Own.mono Hhowd.out (by (first | omega | (simp; done) | (simp; omega)))) | (with_reducible refine Own.set_far ?_ (by (first | omega | (simp; done) | (simp; omega))) _) | (with_reducible refine Own.alloc ?_ _) | (with_reducible refine Own.drew ?_) | (with_reducible refine Own.below ?_ HB4.out (by (first | omega | (simp; done) | (simp; omega)))))))
      have hs4' : w3.heap.size < w4.heap.size := by omega
      go_wp2_with (at_builtin; refine wpList_one rfl (.tmp 20) (.tmp 22) _ rfl (w.heap.size + 3) entT i0 _ 14 80 Try.underlying24 HI0.out HZ0.out HZ1.out HZ2.out rfl (by omega) ent_len ent_ones es es' ⟨a0, a1, a2, a3, a4, a5, a6, a7, a8, a9, a10, a11, a12, a13⟩ HE2.out A c rfl (HO4.out.alloc _) _ rfl (heap_new _ _) (by simp only [maxLen]; omega) (by omega) (by simp; omega) ?_; intro A5 c5 w5 ho5 hb5 hk5; have HO5 := Lib.hid ho5; have HK5 := Lib.hid hk5; have HB5 := Lib.hid hb5; have hs5 := hb5.size; clear ho5 hk5 hb5; (try simp at hs5); have HX5 := Lib.hid ((HK5.out w3.heap.size (by simp; omega) (fun p hp => by have := HA3.out p hp; omega)).trans ((heap_old _ _ hs4').trans HBY.out)); have HI5 := Lib.hid ((HI4.out.alloc (.cells #[.int .i64 a0, .int .i64 a1, .int .i64 a2, .bool a3, .int .i64 a4, .int .i64 a5, .int .i64 a6, .int .i64 a7, .bool a8, .bool a9, .bool a10, .bool a11, .bool a12, .int .i64 a13] entT)).keep2 (w' := w5) (fun p hp => HK5.out p.block (by have := (HI4.out.block_ hp).2; simp; omega) (fun q hq => Own.blk_ne HO4.out HI4.out (by decide) q p hq hp))); have x5 := fun j => cell_of_row _ _ j _ _ _ HX5.out; have xf5 := fun j => frozen_of_row _ _ j _ _ HX5.out; have r5 := fun o => HB5.out.cell (p := ⟨w.heap.size + 2, o, none⟩) (by simp); have rf5 := fun o => HB5.out.frozen (p := ⟨w.heap.size + 2, o, none⟩) (by simp))
      have hn1 := HO5.out.ne_blk HX5.out (by decide)
      have hn2 := HI5.out.ne_blk HX5.out (by decide)
      have HO6 := Lib.hid (fun u => HO5.out.set_ne (p := ⟨w3.heap.size, 0, none⟩) hn1 u)
      have HI6 := Lib.hid (fun u => HI5.out.set_ne (p := ⟨w3.heap.size, 0, none⟩) hn2 u)
      clear hn1 hn2
      refine bodyPost_ret (v := .agg #[.slice A5 es'.length c5, .slice B ds.length d]) (by simp [results, Try.results61, go_sem, *]) rfl ⟨A5, c5, B, d, rfl, ?_, ?_, ?_⟩
      · exact (((HO6.out _).set_far (by simp) _).set_far (by simp) _)
      · exact (((HI6.out _).set_far (by simp) _).set_far (by simp) _)
      · repeat' (first | (with_reducible exact Below.refl _ _) | (with_reducible (refine Below.setCell ?_ ?_ _)) | (with_reducible (refine Below.alloc ?_ ?_ _)) | (with_reducible (refine Below.drew ?_)) | (with_reducible (refine below_via ?_ HB5.out ?_)) | (with_reducible (refine below_via ?_ HB4.out ?_)) | (with_reducible (refine below_via ?_ HBX.out ?_)) | omega | (simp; done) | (simp; omega))
    · have hl8 : decide ((es.length : Int) < 8) = false := by simp; omega
      obtain rfl : es' = es := by rw [HES.out]; simp [hlen]
      clear HES
      go_wp2
      refine bodyPost_ret (v := .agg #[.slice A es'.length c, .slice B ds.length d]) (by simp [results, Try.results61, go_sem, *]) rfl ⟨A, c, B, d, rfl, ?_, ?_, ?_⟩
      · have h4 : Own w4 (w.heap.size + 3) entT 14 Ent.cells es' A c := (by repeat (first | (with_reducible exact Own.mono Hhown.out (by (first | omega | (simp; done) | (simp; omega)))) | (with_reducible refine Own.set_far ?_ (by (first | omega | (simp; done) | (simp; omega))) _) | (with_reducible refine Own.alloc ?_ _) | (with_reducible refine Own.drew ?_) | (with_reducible refine Own.below ?_ HB4.out (by (first | omega | (simp; done) | (simp; omega))))))
        exact (by repeat (first | (with_reducible exact Own.mono h4 (by (first | omega | (simp; done) | (simp; omega)))) | (with_reducible refine Own.set_far ?_ (by (first | omega | (simp; done) | (simp; omega))) _) | (with_reducible refine Own.alloc ?_ _) | (with_reducible refine Own.drew ?_)))
      · have h4 : Own w4 (w.heap.size + 3) invT 4 Inv.cells ds B d := (by repeat (first | (with_reducible exact Own.mono Hhowd.out (by (first | omega | (simp; done) | (simp; omega)))) | (with_reducible refine Own.set_far ?_ (by (first | omega | (simp; done) | (simp; omega))) _) | (with_reducible refine Own.alloc ?_ _) | (with_reducible refine Own.drew ?_) | (with_reducible refine Own.below ?_ HB4.out (by (first | omega | (simp; done) | (simp; omega))))))
        exact (by repeat (first | (with_reducible exact Own.mono h4 (by (first | omega | (simp; done) | (simp; omega)))) | (with_reducible refine Own.set_far ?_ (by (first | omega | (simp; done) | (simp; omega))) _) | (with_reducible refine Own.alloc ?_ _) | (with_reducible refine Own.drew ?_)))
      · repeat' (first | (with_reducible exact Below.refl _ _) | (with_reducible (refine Below.setCell ?_ ?_ _)) | (with_reducible (refine Below.alloc ?_ ?_ _)) | (with_reducible (refine Below.drew ?_)) | (with_reducible (refine below_via ?_ HB4.out ?_)) | (with_reducible (refine below_via ?_ HBX.out ?_)) | omega | (simp; done) | (simp; omega))
  · have hix := HIY.out.1 rfl
    obtain rfl : es' = es := by rw [HES.out]; simp
    clear HES HIY
    have hix2 : decide (ix < 0) = false := by simp; omega
    go_wp2
    refine bodyPost_ret (v := .agg #[.slice A es'.length c, .slice B ds.length d]) (by simp [results, Try.results61, go_sem, *]) rfl ⟨A, c, B, d, rfl, ?_, ?_, ?_⟩
    · have h4 : Own w4 (w.heap.size + 3) entT 14 Ent.cells es' A c := (by repeat (first | (with_reducible exact Own.mono Hhown.out (by (first | omega | (simp; done) | (simp; omega)))) | (with_reducible refine Own.set_far ?_ (by (first | omega | (simp; done) | (simp; omega))) _) | (with_reducible refine Own.alloc ?_ _) | (with_reducible refine Own.drew ?_) | (with_reducible refine Own.below ?_ HB4.out (by (first | omega | (simp; done) | (simp; omega))))))
      exact (by repeat (first | (with_reducible exact Own.mono h4 (by (first | omega | (simp; done) | (simp; omega)))) | (with_reducible refine Own.set_far ?_ (by (first | omega | (simp; done) | (simp; omega))) _) | (with_reducible refine Own.alloc ?_ _) | (with_reducible refine Own.drew ?_)))
    · have h4 : Own w4 (w.heap.size + 3) invT 4 Inv.cells ds B d := (by repeat (first | (with_reducible exact Own.mono Hhowd.out (by (first | omega | (simp; done) | (simp; omega)))) | (with_reducible refine Own.set_far ?_ (by (first | omega | (simp; done) | (simp; omega))) _) | (with_reducible refine Own.alloc ?_ _) | (with_reducible refine Own.drew ?_) | (with_reducible refine Own.below ?_ HB4.out (by (first | omega | (simp; done) | (simp; omega))))))
      exact (by repeat (first | (with_reducible exact Own.mono h4 (by (first | omega | (simp; done) | (simp; omega)))) | (with_reducible refine Own.set_far ?_ (by (first | omega | (simp; done) | (simp; omega))) _) | (with_reducible refine Own.alloc ?_ _) | (with_reducible refine Own.drew ?_)))
    · repeat' (first | (with_reducible exact Below.refl _ _) | (with_reducible (refine Below.setCell ?_ ?_ _)) | (with_reducible (refine Below.alloc ?_ ?_ _)) | (with_reducible (refine Below.drew ?_)) | (with_reducible (refine below_via ?_ HB4.out ?_)) | (with_reducible (refine below_via ?_ HBX.out ?_)) | omega | (simp; done) | (simp; omega))

end Go.Proofs.Ytbaninglcafhhaa
