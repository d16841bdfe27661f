/-
  Write: a number's bytes at a place. Conditions: a place that may be, or none.
-/
import Derived.Test.YtipepkmmjdlpoaaMemD
namespace Go.Proofs.Ytipepkmmjdlpoaa
open Go.RowKit

/-- A word with some bytes put at a place. -/
def putOf (x shift mask v : Int) : Int := bits .or .u64 (bits .andNot .u64 x (IntKind.u64.wrap (mask * 2 ^ shift.toNat))) (IntKind.u64.wrap (bits .and .u64 v mask * 2 ^ shift.toNat))

set_option maxHeartbeats 1000000 in
theorem write_yes (A : Option Addr) (c : Nat) (ws : List Int) (at_ size v : Int) (w : World) (hn : ws.length ≤ 512) (hA : At w A 1 wordCells ws) (hws : ∀ x ∈ ws, 0 ≤ x ∧ x ≤ 18446744073709551615)
    (_hv : 0 ≤ v ∧ v ≤ 18446744073709551615)
    (hg : memOk ws.length = true) (hs : size = 1 ∨ size = 2 ∨ size = 4 ∨ size = 8) (h0 : 0 ≤ at_) (h1 : at_ < 8 * ws.length) (h2 : at_ % size = 0) (i : Nat) (hi : i < ws.length) (hia : at_ / 8 = i) (x : Int) (hx : ws[i] = x) :
    Calls Try.prog 13 #[.agg #[.slice A ws.length c], .int .i64 at_, .int .i64 size, .int .u64 v] w fun e w' => ∃ A' c',
      e = .returned (.tuple #[.agg #[.slice A' ws.length c'], .int .i64 0]) ∧ Own w' (w.heap.size + 2) wordT 1 wordCells (ws.set i (putOf x (at_ % 8 * 8) (maskOf size) v)) A' c' ∧ Below w.heap.size w w' := by
  have HP := Lib.hid (fun W => memPlaced_yes A ws.length c at_ size W (by omega) (by omega) hg hs 0 (by rw [if_neg (by omega), if_pos h2]))
  have HL := Lib.hid (fun W => low_any size hs W)
  have HCP := Lib.hid (fun W (hb : Below w.heap.size w W) => copied_any A c ws W (by omega) (hA.below hb))
  have HIA := Lib.hid hia
  have HX := Lib.hid (hws x (by rw [← hx]; exact List.getElem_mem hi))
  have HXI := Lib.hid hx
  clear hA hws hg hx hia h2
  go_enter Try.func13, Try.ntmps13
  go_wp2_with fail
  refine Calls.mono (HP.out _) ?_
  rintro e w1 ⟨rfl, hb1⟩
  have hs1 := hb1.size
  try simp at hs1
  have hc1_0 := fun o => (bcell hb1).1 (w.heap.size) o (by first | omega | (simp; done) | (simp; omega))
  have hf1_0 := fun o => (bcell hb1).2.1 (w.heap.size) o (by first | omega | (simp; done) | (simp; omega))
  have hz1_0 := (bcell hb1).2.2 (w.heap.size) (by first | omega | (simp; done) | (simp; omega))
  have hc1_1 := fun o => (bcell hb1).1 (w.heap.size + 1) o (by first | omega | (simp; done) | (simp; omega))
  have hf1_1 := fun o => (bcell hb1).2.1 (w.heap.size + 1) o (by first | omega | (simp; done) | (simp; omega))
  have hz1_1 := (bcell hb1).2.2 (w.heap.size + 1) (by first | omega | (simp; done) | (simp; omega))
  have HB1 := Lib.hid hb1
  clear hb1
  go_wp2_with fail
  refine Calls.mono (HCP.out _ (by repeat' (first | (with_reducible exact Below.refl _ _) | (with_reducible (refine Below.setCell ?_ ?_ _)) | (with_reducible (refine Below.alloc ?_ ?_ _)) | (with_reducible (refine Below.drew ?_)) | (with_reducible (refine below_via ?_ HB1.out ?_)) | omega | (simp; done) | (simp; omega)))) ?_
  rintro e w2 ⟨A', c', rfl, hown, hb2⟩
  have hs2 := hb2.size
  try simp at hs2
  have hc2_0 := fun o => (bcell hb2).1 (w.heap.size) o (by first | omega | (simp; done) | (simp; omega))
  have hf2_0 := fun o => (bcell hb2).2.1 (w.heap.size) o (by first | omega | (simp; done) | (simp; omega))
  have hz2_0 := (bcell hb2).2.2 (w.heap.size) (by first | omega | (simp; done) | (simp; omega))
  have hc2_1 := fun o => (bcell hb2).1 (w.heap.size + 1) o (by first | omega | (simp; done) | (simp; omega))
  have hf2_1 := fun o => (bcell hb2).2.1 (w.heap.size + 1) o (by first | omega | (simp; done) | (simp; omega))
  have hz2_1 := (bcell hb2).2.2 (w.heap.size + 1) (by first | omega | (simp; done) | (simp; omega))
  have HB2 := Lib.hid hb2
  clear hb2
  have Hhown := Lib.hid hown
  clear hown
  go_wp2_with fail
  obtain ⟨g, rfl, hg1, hg2, hg3⟩ := Hhown.out.spot (by omega)
  have HGC := Lib.hid (Hhown.out.cell word_len hi (j := 0) rfl)
  have hia := HIA.out
  have hq : IntKind.i64.wrap (at_.tdiv 8) = (i : Int) := by
    rw [Int.tdiv_eq_ediv_of_nonneg h0, hia]; exact IntWalk.i64_in _ (by omega)
  have hr0 : 0 ≤ at_ % 8 * 8 := by omega
  have hr1 : at_ % 8 * 8 ≤ 63 := by omega
  clear hia
  have hgc : w2.cell? ⟨g, i, none⟩ = some (.int .u64 x) := by have := HGC.out; rw [HXI.out] at this; simpa using this
  have hx0 := HX.out.1
  have hx1 := HX.out.2
  have hil : (i : Int) < ws.length := by omega
  have hi0 : (0 : Int) ≤ (i : Int) := by omega
  have hgn : ¬ g = w2.heap.size := by omega
  have hgl : g < w2.heap.size + 1 := by omega
  refine wp_region_class_tail 24 (fun w' => Below (w2.heap.size + 1) (w2.alloc (.cells #[.slice (some ⟨g, 0, none⟩) ws.length c'] memoryT)) w') (by kernel_rfl) (by kernel_rfl) (by kernel_rfl) (Below.refl _ _).drew ?_
  repeat (first
    | (refine wpLex_pass (by rfl) passes_plain ?_; (conv => arg 9; simp only [put_lit, put_lit_none, List.set]))
    | (refine wpLex_plain (by rfl) ?_
       apply Exists.intro
       refine ⟨?_, ?_⟩
       · intro w' hb
         have hsz := hb.size
         try simp at hsz
         have hcw := fun b o (h : b < w2.heap.size + 1) => hb.cell (p := ⟨b, o, none⟩) h
         have hfw := fun b o (h : b < w2.heap.size + 1) => hb.frozen (p := ⟨b, o, none⟩) h
         go_simp
         first
           | exact ⟨rfl, hb⟩
           | exact rfl
           | ((with_reducible refine Calls.mono (HL.out _) ?_); rintro e w2 ⟨rfl, rfl⟩; exact ⟨_, rfl, rfl, hb⟩)
       conv => arg 9; simp only [put_lit, put_lit_none, List.set]))
  refine wpLex_nil ?_
  intro wr hbr
  have hsr := hbr.size
  try simp at hsr
  have hcr := fun b o (h : b < w2.heap.size + 1) => hbr.cell (p := ⟨b, o, none⟩) h
  have hfr := fun b o (h : b < w2.heap.size + 1) => hbr.frozen (p := ⟨b, o, none⟩) h
  have HBr := Lib.hid hbr
  clear hbr
  simp only [List.drop]
  have hgf := hg3 i
  have hgb : ¬ w.heap.size + 1 = g := by omega
  have hg1' : ¬ g = w.heap.size + 1 := by omega
  go_wp2_with fail
  refine bodyPost_ret (v := .tuple #[.agg #[.slice (some ⟨g, 0, none⟩) ws.length c'], .int .i64 0]) (by simp [results, Try.results13, go_sem, *]) rfl ⟨some ⟨g, 0, none⟩, c', rfl, ?_, ?_⟩
  · exact ((((((Hhown.out.alloc _).below HBr.out (by simp)).set1 word_len (i := i) (putOf x (at_ % 8 * 8) (maskOf size) v) _ rfl)).mono (by omega)).set_far (by simp) _)
  · repeat' (first | (with_reducible exact Below.refl _ _) | (with_reducible (refine Below.setCell ?_ ?_ _)) | (with_reducible (refine Below.alloc ?_ ?_ _)) | (with_reducible (refine Below.drew ?_)) | (with_reducible (refine below_via ?_ HBr.out ?_)) | (with_reducible (refine below_via ?_ HB2.out ?_)) | (with_reducible (refine below_via ?_ HB1.out ?_)) | omega | (simp; done) | (simp; omega))

end Go.Proofs.Ytipepkmmjdlpoaa
