/-
  Copy: a frame as another one is. Conditions: the frames are there; the lengths fit.
-/
import Derived.Test.YtipepkmmjdlpoaaMemK
namespace Go.Proofs.Ytipepkmmjdlpoaa
open Go.RowKit

theorem at_new2 {α : Type} {g : α → List Value} {t : TypeId} (W : World) (u v : Value) (x y : α) (b : Nat) (hb : b = W.heap.size) (hx : g x = [u]) (hy : g y = [v]) : At (W.alloc (.cells #[u, v] t)) (some ⟨b, 0, none⟩) 1 g [x, y] := by
  subst hb
  intro _
  refine ⟨_, 0, rfl, by simp, fun i hi j z hz => ?_⟩
  rw [cell_of_row _ _ _ _ _ _ (heap_new W _)]
  simp only [List.length_cons, List.length_nil] at hi
  match i, hi with
  | 0, _ =>
    simp only [List.getElem_cons_zero, hx] at hz
    match j, hz with
    | 0, hz => simpa using hz
  | 1, _ =>
    simp only [List.getElem_cons_succ, List.getElem_cons_zero, hy] at hz
    match j, hz with
    | 0, hz => simpa using hz

theorem Copy_no (A : Option Addr) (c n : Nat) (f t : Int) (w : World) (hn : n ≤ 140737488355328) (h : askOf n [f, t] ≠ 0) :
    Calls Try.prog 28 #[.agg #[.slice A n c], .int .i64 f, .int .i64 t] w fun e w' => e = .returned (.tuple #[.agg #[.slice none 0 0], .int .i64 (askOf n [f, t])]) ∧ Below w.heap.size w w' := by
  have HA := Lib.hid (fun (L : Option Addr) W (hL : At W L 1 intCells [f, t]) => ask_any A L c 2 n [f, t] W hn (by simp) hL)
  generalize askOf n [f, t] = r at *
  have q : (r != 0) = true := by simpa using h
  clear h
  go_enter Try.func28, Try.ntmps28
  go_wp2_with fail
  refine Calls.mono (HA.out _ _ (by exact at_new2 _ _ _ _ _ _ (by simp) rfl rfl)) ?_
  rintro e w1 ⟨rfl, hb1⟩
  have hs1 := hb1.size
  try simp at hs1
  have hc1_0 := fun o => (bcell hb1).1 (w.heap.size) o (by first | omega | (simp; done) | (simp; omega))
  have hf1_0 := fun o => (bcell hb1).2.1 (w.heap.size) o (by first | omega | (simp; done) | (simp; omega))
  have hz1_0 := (bcell hb1).2.2 (w.heap.size) (by first | omega | (simp; done) | (simp; omega))
  have hc1_1 := fun o => (bcell hb1).1 (w.heap.size + 1) o (by first | omega | (simp; done) | (simp; omega))
  have hf1_1 := fun o => (bcell hb1).2.1 (w.heap.size + 1) o (by first | omega | (simp; done) | (simp; omega))
  have hz1_1 := (bcell hb1).2.2 (w.heap.size + 1) (by first | omega | (simp; done) | (simp; omega))
  have HB1 := Lib.hid hb1
  clear hb1
  go_wp2
  refine bodyPost_ret (v := .tuple #[.agg #[.slice none 0 0], .int .i64 r]) (by simp [results, Try.results28, go_sem, *]) rfl ⟨rfl, ?_⟩
  repeat' (first | (with_reducible exact Below.refl _ _) | (with_reducible (refine Below.setCell ?_ ?_ _)) | (with_reducible (refine Below.alloc ?_ ?_ _)) | (with_reducible (refine Below.drew ?_)) | (with_reducible (refine below_via ?_ HB1.out ?_)) | omega | (simp; done) | (simp; omega))

def copied (ws : List Int) (f t : Nat) : List Int := setAll ws (t * 8) (frameOf ws f)

set_option maxHeartbeats 1000000 in
theorem Copy_yes (A : Option Addr) (c : Nat) (ws : List Int) (f t : Nat) (w : World) (hn : ws.length ≤ 512) (hA : At w A 1 wordCells ws) (h : askOf ws.length [(f : Int), (t : Int)] = 0) (hf : 8 * f + 8 ≤ ws.length) (ht : 8 * t + 8 ≤ ws.length) :
    Calls Try.prog 28 #[.agg #[.slice A ws.length c], .int .i64 f, .int .i64 t] w fun e w' => ∃ A' c',
      e = .returned (.tuple #[.agg #[.slice A' ws.length c'], .int .i64 0]) ∧ Own w' (w.heap.size + 2) wordT 1 wordCells (copied ws f t) A' c' ∧ Below w.heap.size w w' := by
  have HA := Lib.hid (fun (L : Option Addr) W (hL : At W L 1 intCells [(f : Int), (t : Int)]) => ask_any A L c 2 ws.length [(f : Int), (t : Int)] W (by omega) (by simp) hL)
  rw [h] at HA
  have HCP := Lib.hid (fun W (hb : Below w.heap.size w W) => copied_any A c ws W (by omega) (hA.below hb))
  clear h hA
  go_enter Try.func28, Try.ntmps28
  go_wp2_with fail
  refine Calls.mono (HA.out _ _ (by exact at_new2 _ _ _ _ _ _ (by simp) rfl rfl)) ?_
  rintro e w1 ⟨rfl, hb1⟩
  have hs1 := hb1.size
  try simp at hs1
  have hc1_0 := fun o => (bcell hb1).1 (w.heap.size) o (by first | omega | (simp; done) | (simp; omega))
  have hf1_0 := fun o => (bcell hb1).2.1 (w.heap.size) o (by first | omega | (simp; done) | (simp; omega))
  have hz1_0 := (bcell hb1).2.2 (w.heap.size) (by first | omega | (simp; done) | (simp; omega))
  have hc1_1 := fun o => (bcell hb1).1 (w.heap.size + 1) o (by first | omega | (simp; done) | (simp; omega))
  have hf1_1 := fun o => (bcell hb1).2.1 (w.heap.size + 1) o (by first | omega | (simp; done) | (simp; omega))
  have hz1_1 := (bcell hb1).2.2 (w.heap.size + 1) (by first | omega | (simp; done) | (simp; omega))
  have HB1 := Lib.hid hb1
  clear hb1
  go_wp2_with fail
  refine Calls.mono (HCP.out _ (by repeat' (first | (with_reducible exact Below.refl _ _) | (with_reducible (refine Below.setCell ?_ ?_ _)) | (with_reducible (refine Below.alloc ?_ ?_ _)) | (with_reducible (refine Below.drew ?_)) | (with_reducible (refine below_via ?_ HB1.out ?_)) | omega | (simp; done) | (simp; omega)))) ?_
  rintro e w2 ⟨A', c', rfl, hown, hb2⟩
  have hs2 := hb2.size
  try simp at hs2
  have hc2_0 := fun o => (bcell hb2).1 (w.heap.size) o (by first | omega | (simp; done) | (simp; omega))
  have hf2_0 := fun o => (bcell hb2).2.1 (w.heap.size) o (by first | omega | (simp; done) | (simp; omega))
  have hz2_0 := (bcell hb2).2.2 (w.heap.size) (by first | omega | (simp; done) | (simp; omega))
  have hc2_1 := fun o => (bcell hb2).1 (w.heap.size + 1) o (by first | omega | (simp; done) | (simp; omega))
  have hf2_1 := fun o => (bcell hb2).2.1 (w.heap.size + 1) o (by first | omega | (simp; done) | (simp; omega))
  have hz2_1 := (bcell hb2).2.2 (w.heap.size + 1) (by first | omega | (simp; done) | (simp; omega))
  have HB2 := Lib.hid hb2
  clear hb2
  have Hhown := Lib.hid hown
  clear hown
  go_wp2_with fail
  obtain ⟨g, rfl, hg1, hg2, hg3⟩ := Hhown.out.spot (by omega)
  have hof := fun (x : Nat) hx8 W => memOf_any g 0 c' ws.length x W hn Hhown.out.cap_ hx8
  simp only [Nat.zero_add] at hof
  have HOF := Lib.hid hof
  clear hof
  refine wp_region_class_tail 6 (fun w' => Below (w2.heap.size + 1) (w2.alloc (.cells #[.slice (some ⟨g, 0, none⟩) ws.length c'] memoryT)) w') (by kernel_rfl) (by kernel_rfl) (by kernel_rfl) (Below.refl _ _).drew ?_
  repeat (first
    | (refine wpLex_pass (by rfl) passes_plain ?_; (conv => arg 9; simp only [put_lit, put_lit_none, List.set]))
    | (refine wpLex_plain (by rfl) ?_
       apply Exists.intro
       refine ⟨?_, ?_⟩
       · intro w' hb
         have hsz := hb.size
         try simp at hsz
         have hcw := fun b o (h : b < w2.heap.size + 1) => hb.cell (p := ⟨b, o, none⟩) h
         have hfw := fun b o (h : b < w2.heap.size + 1) => hb.frozen (p := ⟨b, o, none⟩) h
         go_simp
         first
           | exact ⟨rfl, hb⟩
           | exact rfl
           | ((with_reducible refine Calls.mono (HOF.out f hf _) ?_); rintro e w2 ⟨rfl, hb2⟩; exact ⟨_, rfl, rfl, hb.trans (hb2.mono hsz)⟩)
           | ((with_reducible refine Calls.mono (HOF.out t ht _) ?_); rintro e w2 ⟨rfl, hb2⟩; exact ⟨_, rfl, rfl, hb.trans (hb2.mono hsz)⟩)
       conv => arg 9; simp only [put_lit, put_lit_none, List.set]))
  refine wpLex_nil ?_
  intro wr hbr
  have hsr := hbr.size
  try simp at hsr
  have hcr := fun b o (h : b < w2.heap.size + 1) => hbr.cell (p := ⟨b, o, none⟩) h
  have hfr := fun b o (h : b < w2.heap.size + 1) => hbr.frozen (p := ⟨b, o, none⟩) h
  have HBr := Lib.hid hbr
  clear hbr
  simp only [List.drop]
  have HOR := Lib.hid ((Hhown.out.alloc (.cells #[.slice (some ⟨g, 0, none⟩) ws.length c'] memoryT)).below HBr.out (by simp))
  obtain ⟨cur, hcur, hcl⟩ := HOR.out.row_
  have hfl := frame_len ws f hf
  have hcop : ∀ ty, (Builtin.copy_ #[22, 22] ty #[.slice (some ⟨g, t * 8, none⟩) 8 (c' - t * 8), .slice (some ⟨g, f * 8, none⟩) 8 (c' - f * 8)]).run Try.prog wr =
      .ok (goInt ((frameOf ws f).map (Value.int .u64)).length) (wr.setRow g (cur.toList.take (t * 8) ++ (frameOf ws f).map (Value.int .u64) ++ cur.toList.drop (t * 8 + ((frameOf ws f).map (Value.int .u64)).length)).toArray) := fun ty =>
    run_copy_row Try.prog wr _ _ ty _ g (t * 8) 8 _ ⟨g, f * 8, none⟩ 8 _ cur wordT ((frameOf ws f).map (Value.int .u64)) Try.underlying22 (by kernel_rfl) hcur (by simp [hfl])
      (fun j v hj => by
        simp only [List.getElem?_map, Option.map_eq_some_iff] at hj
        obtain ⟨x, hx, rfl⟩ := hj
        have hjl : j < 8 := by have := (List.getElem?_eq_some_iff.1 hx).1; omega
        have e1 : (⟨g, f * 8, none⟩ : Addr).add j = ⟨g, (f * 8 + j) * 1 + 0, none⟩ := by
          unfold Addr.add
          by_cases z : j = 0 <;> simp [z]
        rw [e1]
        refine HOR.out.cell word_len (i := f * 8 + j) (j := 0) (by omega) ?_
        have : ws[f * 8 + j]? = some x := by
          rw [← hx, frameOf, List.getElem?_take, if_pos hjl, List.getElem?_drop]
        rw [List.getElem?_eq_getElem (by omega)] at this
        injection this with this
        rw [this]; rfl)
      (by simp [hfl]; omega) (fun v hv => by
        obtain ⟨x, _, rfl⟩ := List.mem_map.1 hv
        rfl)
  have HOS := Lib.hid (HOR.out.setRow_ (Value.int .u64) (fun _ => rfl) cur hcur (frameOf ws f) (t * 8) (by omega))
  obtain ⟨w5, hw5⟩ : ∃ w5, w5 = wr.setRow g (cur.toList.take (t * 8) ++ (frameOf ws f).map (Value.int .u64) ++ cur.toList.drop (t * 8 + ((frameOf ws f).map (Value.int .u64)).length)).toArray := ⟨_, rfl⟩
  rw [← hw5] at hcop HOS
  have HB5 := Lib.hid (show Below g wr w5 by rw [hw5]; exact below_setRow (Below.refl _ _) (Nat.le_refl _) _)
  have hh5 := fun k (hk : k ≠ g) => (show w5.heap[k]? = wr.heap[k]? by rw [hw5]; exact setRow_other wr g k _ hk)
  have hx := (hh5 w2.heap.size (by omega)).trans ((HBr.out.block _ (by omega)).trans (heap_new _ _))
  have hy0 := fun o => HB5.out.cell (p := ⟨w.heap.size + 1, o, none⟩) (by simp; omega)
  have hy1 := fun o => HB5.out.frozen (p := ⟨w.heap.size + 1, o, none⟩) (by simp; omega)
  have e0 := cell_of_row _ _ 0 _ _ _ hx
  have ef := fun j => frozen_of_row _ _ j _ _ hx
  clear hw5 hh5 hx hcur hfl hcl
  go_wp2_with (simp only [hcop])
  refine bodyPost_ret (v := .tuple #[.agg #[.slice (some ⟨g, 0, none⟩) ws.length c'], .int .i64 0]) (by simp [results, Try.results28, go_sem, *]) rfl ⟨_, _, rfl, ?_, ?_⟩
  · exact (HOS.out.set_far (by simp; omega) _).mono (by omega)
  · repeat' (first | (with_reducible exact Below.refl _ _) | (with_reducible (refine Below.setCell ?_ ?_ _)) | (with_reducible (refine Below.alloc ?_ ?_ _)) | (with_reducible (refine Below.drew ?_)) | (with_reducible (refine below_via ?_ HB5.out ?_)) | (with_reducible (refine below_via ?_ HBr.out ?_)) | (with_reducible (refine below_via ?_ HB2.out ?_)) | (with_reducible (refine below_via ?_ HB1.out ?_)) | omega | (simp; done) | (simp; omega))

end Go.Proofs.Ytipepkmmjdlpoaa
