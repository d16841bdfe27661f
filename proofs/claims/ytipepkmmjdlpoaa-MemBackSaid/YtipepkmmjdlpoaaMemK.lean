/-
  Zero: noughts in some frames. Conditions: the frames are there; the lengths fit.
-/
import Derived.Test.YtipepkmmjdlpoaaMemJ
namespace Go.Proofs.Ytipepkmmjdlpoaa
open Go.RowKit

def zeroed (ws : List Int) (l : List Int) : List Int := l.foldl (fun a f => setAll a (f.toNat * 8) (zeros 8)) ws
theorem zeroed_len (l : List Int) : ∀ ws : List Int, (zeroed ws l).length = ws.length := by
  induction l with
  | nil => intro ws; rfl
  | cons x l ih => intro ws; show (zeroed (setAll ws _ _) l).length = _; rw [ih, setAll_len]
theorem zeroed_snoc (ws l : List Int) (x : Int) : zeroed ws (l ++ [x]) = setAll (zeroed ws l) (x.toNat * 8) (zeros 8) := by simp [zeroed]

theorem Zero_no (A L : Option Addr) (c cl n : Nat) (l : List Int) (w : World) (hn : n ≤ 140737488355328) (hl : l.length ≤ 140737488355328) (hL : At w L 1 intCells l) (h : askOf n l ≠ 0) :
    Calls Try.prog 18 #[.agg #[.slice A n c], .slice L l.length cl] w fun e w' => e = .returned (.tuple #[.agg #[.slice none 0 0], .int .i64 (askOf n l)]) ∧ Below w.heap.size w w' := by
  have HA := Lib.hid (fun W (hb : Below w.heap.size w W) => ask_any A L c cl n l W hn hl (hL.below hb))
  generalize askOf n l = r at *
  have q : (r != 0) = true := by simpa using h
  clear h hL
  go_enter Try.func18, Try.ntmps18
  go_wp2_with fail
  refine Calls.mono (HA.out _ (by repeat' (first | (with_reducible exact Below.refl _ _) | (with_reducible (refine Below.setCell ?_ ?_ _)) | (with_reducible (refine Below.alloc ?_ ?_ _)) | (with_reducible (refine Below.drew ?_)) | omega | (simp; done) | (simp; omega)))) ?_
  rintro e w1 ⟨rfl, hb1⟩
  have hs1 := hb1.size
  try simp at hs1
  have hc1_0 := fun o => (bcell hb1).1 (w.heap.size) o (by first | omega | (simp; done) | (simp; omega))
  have hf1_0 := fun o => (bcell hb1).2.1 (w.heap.size) o (by first | omega | (simp; done) | (simp; omega))
  have hz1_0 := (bcell hb1).2.2 (w.heap.size) (by first | omega | (simp; done) | (simp; omega))
  have hc1_1 := fun o => (bcell hb1).1 (w.heap.size + 1) o (by first | omega | (simp; done) | (simp; omega))
  have hf1_1 := fun o => (bcell hb1).2.1 (w.heap.size + 1) o (by first | omega | (simp; done) | (simp; omega))
  have hz1_1 := (bcell hb1).2.2 (w.heap.size + 1) (by first | omega | (simp; done) | (simp; omega))
  have HB1 := Lib.hid hb1
  clear hb1
  go_wp2_with fail
  refine bodyPost_ret (v := .tuple #[.agg #[.slice none 0 0], .int .i64 r]) (by simp [results, Try.results18, go_sem, *]) rfl ⟨rfl, ?_⟩
  repeat' (first | (with_reducible exact Below.refl _ _) | (with_reducible (refine Below.setCell ?_ ?_ _)) | (with_reducible (refine Below.alloc ?_ ?_ _)) | (with_reducible (refine Below.drew ?_)) | (with_reducible (refine below_via ?_ HB1.out ?_)) | omega | (simp; done) | (simp; omega))

theorem zero_word (w : World) : (zeroValue wordT).run Try.prog w = .ok (.int .u64 0) w := by kernel_rfl

theorem there_at {k : Int} {l : List Int} (h : thereB k l = true) {i : Nat} (hi : i < l.length) : ∃ f : Nat, l[i] = (f : Int) ∧ (f : Int) < k := by
  have h1 := List.all_eq_true.1 h _ (List.getElem_mem hi)
  have h2 := numB_yes h1
  exact ⟨l[i].toNat, by omega, by omega⟩

set_option maxHeartbeats 1000000 in
theorem Zero_yes (A L : Option Addr) (c cl : Nat) (ws l : List Int) (w : World) (hn : ws.length ≤ 512) (hn0 : 0 < ws.length) (hl : l.length ≤ 140737488355328) (hA : At w A 1 wordCells ws) (hL : At w L 1 intCells l) (h : askOf ws.length l = 0) (hth : thereB ((ws.length : Int) / 8) l = true) :
    Calls Try.prog 18 #[.agg #[.slice A ws.length c], .slice L l.length cl] w fun e w' => ∃ A' c',
      e = .returned (.tuple #[.agg #[.slice A' ws.length c'], .int .i64 0]) ∧ Own w' (w.heap.size + 2) wordT 1 wordCells (zeroed ws l) A' c' ∧ Below w.heap.size w w' := by
  have HA := Lib.hid (fun W (hb : Below w.heap.size w W) => ask_any A L c cl ws.length l W (by omega) hl (hL.below hb))
  rw [h] at HA
  have HCP := Lib.hid (fun W (hb : Below w.heap.size w W) => copied_any A c ws W (by omega) (hA.below hb))
  have HL := Lib.hid hL
  have HTH := Lib.hid hth
  clear h hA hL hth
  go_enter Try.func18, Try.ntmps18
  go_wp2_with fail
  refine Calls.mono (HA.out _ (by repeat' (first | (with_reducible exact Below.refl _ _) | (with_reducible (refine Below.setCell ?_ ?_ _)) | (with_reducible (refine Below.alloc ?_ ?_ _)) | (with_reducible (refine Below.drew ?_)) | omega | (simp; done) | (simp; omega)))) ?_
  rintro e w1 ⟨rfl, hb1⟩
  have hs1 := hb1.size
  try simp at hs1
  have hc1_0 := fun o => (bcell hb1).1 (w.heap.size) o (by first | omega | (simp; done) | (simp; omega))
  have hf1_0 := fun o => (bcell hb1).2.1 (w.heap.size) o (by first | omega | (simp; done) | (simp; omega))
  have hz1_0 := (bcell hb1).2.2 (w.heap.size) (by first | omega | (simp; done) | (simp; omega))
  have hc1_1 := fun o => (bcell hb1).1 (w.heap.size + 1) o (by first | omega | (simp; done) | (simp; omega))
  have hf1_1 := fun o => (bcell hb1).2.1 (w.heap.size + 1) o (by first | omega | (simp; done) | (simp; omega))
  have hz1_1 := (bcell hb1).2.2 (w.heap.size + 1) (by first | omega | (simp; done) | (simp; omega))
  have HB1 := Lib.hid hb1
  clear hb1
  go_wp2_with fail
  refine Calls.mono (HCP.out _ (by repeat' (first | (with_reducible exact Below.refl _ _) | (with_reducible (refine Below.setCell ?_ ?_ _)) | (with_reducible (refine Below.alloc ?_ ?_ _)) | (with_reducible (refine Below.drew ?_)) | (with_reducible (refine below_via ?_ HB1.out ?_)) | omega | (simp; done) | (simp; omega)))) ?_
  rintro e w2 ⟨A', c', rfl, hown, hb2⟩
  have hs2 := hb2.size
  try simp at hs2
  have hc2_0 := fun o => (bcell hb2).1 (w.heap.size) o (by first | omega | (simp; done) | (simp; omega))
  have hf2_0 := fun o => (bcell hb2).2.1 (w.heap.size) o (by first | omega | (simp; done) | (simp; omega))
  have hz2_0 := (bcell hb2).2.2 (w.heap.size) (by first | omega | (simp; done) | (simp; omega))
  have hc2_1 := fun o => (bcell hb2).1 (w.heap.size + 1) o (by first | omega | (simp; done) | (simp; omega))
  have hf2_1 := fun o => (bcell hb2).2.1 (w.heap.size + 1) o (by first | omega | (simp; done) | (simp; omega))
  have hz2_1 := (bcell hb2).2.2 (w.heap.size + 1) (by first | omega | (simp; done) | (simp; omega))
  have HB2 := Lib.hid hb2
  clear hb2
  have Hhown := Lib.hid hown
  clear hown
  go_wp2_with fail
  obtain ⟨g, rfl, hg1, hg2, hg3⟩ := Hhown.out.spot hn0
  have HCAP := Lib.hid Hhown.out.cap_
  go_loopw [21] (fun i wr => ∃ k : Nat, k ≤ l.length ∧ i = .int .i64 k ∧ Own wr (w1.heap.size + 2) wordT 1 wordCells (zeroed ws (l.take k)) (some ⟨g, 0, none⟩) c' ∧ wr.heap[w2.heap.size]? = some (.cells #[.slice (some ⟨g, 0, none⟩) ws.length c'] memoryT (0, 0)) ∧ Below w1.heap.size w1 wr) (fun i _ => l.length - (intOf i).toNat)
  case atStart => exact ⟨0, Nat.zero_le _, rfl, Hhown.out.alloc _, heap_new _ _, (by repeat' (first | (with_reducible exact Below.refl _ _) | (with_reducible (refine Below.setCell ?_ ?_ _)) | (with_reducible (refine Below.alloc ?_ ?_ _)) | (with_reducible (refine Below.drew ?_)) | (with_reducible (refine below_via ?_ HB2.out ?_)) | omega | (simp; done) | (simp; omega)))⟩
  case round =>
    obtain ⟨k, hk, rfl, hown, hx, hbw⟩ := hrel
    have HOWN := Lib.hid hown
    have HX := Lib.hid hx
    have HBW := Lib.hid hbw
    have hsw := hbw.size
    have e0 := cell_of_row _ _ 0 _ _ _ hx
    have ef := fun j => frozen_of_row _ _ j _ _ hx
    have hxl := heap_lt hx
    have hgl := (hown.block_ rfl).2
    dsimp only at hgl
    clear hown hx hbw
    by_cases hlt : k < l.length
    · obtain ⟨ba, oa, rfl, hba, hca⟩ := at_cell HL.out (((Below.refl _ _).trans ((by repeat' (first | (with_reducible exact Below.refl _ _) | (with_reducible (refine Below.setCell ?_ ?_ _)) | (with_reducible (refine Below.alloc ?_ ?_ _)) | (with_reducible (refine Below.drew ?_)) | (with_reducible (refine below_via ?_ HB1.out ?_)) | omega | (simp; done) | (simp; omega))) : Below w.heap.size w w1)).trans (HBW.out.mono (by omega))) hlt rfl
      obtain ⟨x, hxk, hxn⟩ := there_at HTH.out hlt
      rw [hxk] at hca
      have HXK := Lib.hid hxk
      clear hxk
      have hki : (k : Int) < l.length := by omega
      have hx8 : 8 * x + 8 ≤ ws.length := by omega
      go_wp2_with fail
      have hof := fun W => memOf_any g 0 c' ws.length x W hn HCAP.out hx8
      simp only [Nat.zero_add] at hof
      have HOF := Lib.hid hof
      clear hof
      refine Calls.mono (HOF.out _) ?_
      rintro e w4 ⟨rfl, hb4⟩
      have hs4 := hb4.size
      try simp at hs4
      have hc4_0 := fun o => (bcell hb4).1 (w2.heap.size) o (by first | omega | (simp; done) | (simp; omega))
      have hf4_0 := fun o => (bcell hb4).2.1 (w2.heap.size) o (by first | omega | (simp; done) | (simp; omega))
      have hz4_0 := (bcell hb4).2.2 (w2.heap.size) (by first | omega | (simp; done) | (simp; omega))
      have HB4 := Lib.hid hb4
      clear hb4
      have HOWN4 := Lib.hid (HOWN.out.below HB4.out (Nat.le_refl _))
      have hcl : ∀ ty, (Builtin.clear_ #[22] ty #[.slice (some ⟨g, x * 8, none⟩) 8 (c' - x * 8)]).run Try.prog w4 = .ok (.tuple #[]) (w4.setCells g (x * 8) (List.replicate 8 (.int .u64 0))) :=
        fun ty => Lib.run_clear_slice w4 _ _ ty (.int .u64 0) Try.underlying22 zero_word rfl rfl g (x * 8) 8 _ (by decide) (fun j hj => (HOWN4.out.some_ _ (by rw [zeroed_len]; omega)).1) (fun j hj => (HOWN4.out.some_ _ (by rw [zeroed_len]; omega)).2)
      obtain ⟨w5, hw5⟩ : ∃ w5, w5 = w4.setCells g (x * 8) (List.replicate 8 (.int .u64 0)) := ⟨_, rfl⟩
      rw [← hw5] at hcl
      have HW5 := Lib.hid hw5
      clear hw5
      go_wp2_with (rw [hcl])
      go_roundw
      case rel =>
        refine ⟨k + 1, by omega, by go_num, ?_, ?_, ?_⟩
        · rw [take_snoc_get l k hlt, zeroed_snoc, HXK.out, HW5.out]
          have := HOWN4.out.setMany word_len (fun z => .int .u64 z) (fun z => rfl) (zeros 8) _ (x * 8)
          simpa [zeros] using this
        · rw [HW5.out, heap_cells (by omega), HB4.out.block _ hxl]
          exact HX.out
        · rw [HW5.out]
          exact below_cells (by omega) _ _ _ (by repeat' (first | (with_reducible exact Below.refl _ _) | (with_reducible (refine Below.setCell ?_ ?_ _)) | (with_reducible (refine Below.alloc ?_ ?_ _)) | (with_reducible (refine Below.drew ?_)) | (with_reducible (refine below_via ?_ HB4.out ?_)) | (with_reducible (refine below_via ?_ HBW.out ?_)) | omega | (simp; done) | (simp; omega)))
      case measure => simp [intOf]; omega
    · have hcr := fun o => HBW.out.cell (p := ⟨w.heap.size + 1, o, none⟩) (by simp; omega)
      have hfr := fun o => HBW.out.frozen (p := ⟨w.heap.size + 1, o, none⟩) (by simp; omega)
      go_wp2
      refine bodyPost_ret (v := .tuple #[.agg #[.slice (some ⟨g, 0, none⟩) ws.length c'], .int .i64 0]) (by simp [results, Try.results18, go_sem, *]) rfl ⟨_, _, rfl, ?_, ?_⟩
      · exact (HOWN.out.len (by rw [List.take_of_length_le (by omega)])).set_far (by simp; omega) _ |>.mono (by omega)
      · repeat' (first | (with_reducible exact Below.refl _ _) | (with_reducible (refine Below.setCell ?_ ?_ _)) | (with_reducible (refine Below.alloc ?_ ?_ _)) | (with_reducible (refine Below.drew ?_)) | (with_reducible (refine below_via ?_ HBW.out ?_)) | (with_reducible (refine below_via ?_ HB1.out ?_)) | omega | (simp; done) | (simp; omega))

end Go.Proofs.Ytipepkmmjdlpoaa
