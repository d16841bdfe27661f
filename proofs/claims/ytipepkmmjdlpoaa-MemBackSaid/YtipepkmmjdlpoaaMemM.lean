/-
  The page's own Put, Write and Zero. Conditions: a place that may be; the lengths fit.
-/
import Derived.Test.YtipepkmmjdlpoaaMemL
namespace Go.Proofs.Ytipepkmmjdlpoaa
open Go.RowKit

def putRaw (x shift mask v : Int) : Int := bits .or .u64 (bits .andNot .u64 x (IntKind.u64.wrap (mask * 2 ^ shift.toNat))) (IntKind.u64.wrap (v * 2 ^ shift.toNat))
theorem putRaw_eq (x shift mask v : Int) : putRaw x shift mask (bits .and .u64 v mask) = putOf x shift mask v := rfl

set_option maxHeartbeats 1000000 in
theorem put_any (x at_ size v : Int) (ha : 0 ≤ at_ ∧ at_ ≤ 63) (hs : size = 1 ∨ size = 2 ∨ size = 4 ∨ size = 8) (w : World) :
    Calls Try.prog 46 #[.int .u64 x, .agg #[.int .i64 at_, .int .i64 (8 * size), .int .u64 v]] w fun e w' => e = .returned (.int .u64 (putRaw x at_ (maskOf size) v)) ∧ Below w.heap.size w w' := by
  obtain ⟨ha0, ha1⟩ := ha
  have HM := Lib.hid (fun W => mask_any size hs W)
  go_enter Try.func46, Try.ntmps46
  go_wp2_with fail
  refine wp_region_class (fun w' => Below (w.heap.size + 1) (w.alloc (.cells #[.int .i64 at_, .int .i64 (8 * size), .int .u64 v] 77)) w') (by kernel_rfl) (by kernel_rfl) (Below.refl _ _).drew ?_
  repeat (first
    | (refine wpLex_pass (by rfl) passes_plain ?_; (conv => arg 9; simp only [put_lit, put_lit_none, List.set]))
    | (refine wpLex_plain (by rfl) ?_
       apply Exists.intro
       refine ⟨?_, ?_⟩
       · intro w' hb
         have hsz := hb.size
         try simp at hsz
         have hcw := fun b o (h : b < w.heap.size + 1) => hb.cell (p := ⟨b, o, none⟩) h
         have hfw := fun b o (h : b < w.heap.size + 1) => hb.frozen (p := ⟨b, o, none⟩) h
         go_simp
         first
           | exact ⟨rfl, hb⟩
           | exact rfl
           | ((with_reducible refine Calls.mono (HM.out _) ?_); rintro e w2 ⟨rfl, rfl⟩; exact ⟨_, rfl, rfl, hb⟩)
       conv => arg 9; simp only [put_lit, put_lit_none, List.set]))
  refine wpLex_nil ?_
  intro wr hbr
  have hsr := hbr.size
  try simp at hsr
  have hcr := fun b o (h : b < w.heap.size + 1) => hbr.cell (p := ⟨b, o, none⟩) h
  have hfr := fun b o (h : b < w.heap.size + 1) => hbr.frozen (p := ⟨b, o, none⟩) h
  have HBr := Lib.hid hbr
  clear hbr
  go_wp2
  go_ret
  exact ⟨rfl, (by repeat' (first | (with_reducible exact Below.refl _ _) | (with_reducible (refine Below.setCell ?_ ?_ _)) | (with_reducible (refine Below.alloc ?_ ?_ _)) | (with_reducible (refine Below.drew ?_)) | (with_reducible (refine below_via ?_ HBr.out ?_)) | omega | (simp; done) | (simp; omega)))⟩

set_option maxHeartbeats 1000000 in
theorem refRead_any (A : Option Addr) (c : Nat) (ws : List Int) (at_ size : Int) (w : World) (hn : ws.length ≤ 512) (hA : At w A 1 wordCells ws) (hws : ∀ x ∈ ws, 0 ≤ x ∧ x ≤ 18446744073709551615)
    (hs : size = 1 ∨ size = 2 ∨ size = 4 ∨ size = 8) (h0 : 0 ≤ at_) (_h1 : at_ < 8 * ws.length) (i : Nat) (hi : i < ws.length) (hia : at_ / 8 = i) (x : Int) (hx : ws[i] = x) :
    Calls Try.prog 26 #[.agg #[.slice A ws.length c], .int .i64 at_, .int .i64 size] w fun e w' =>
      e = .returned (.int .u64 (getOf x (at_ % 8 * 8) (maskOf size))) ∧ Below w.heap.size w w' := by
  have HG := Lib.hid (fun W => get_any x (at_ % 8 * 8) size (hws x (by rw [← hx]; exact List.getElem_mem hi)) (by omega) hs W)
  obtain ⟨b, off, rfl, hbl, hc⟩ := hA (by omega)
  have hcell : w.cell? ⟨b, off + i, none⟩ = some (.int .u64 x) := by have := hc i hi 0 _ rfl; rw [hx] at this; simpa using this
  have hq : IntKind.i64.wrap (at_.tdiv 8) = (i : Int) := by
    rw [Int.tdiv_eq_ediv_of_nonneg h0, hia]; exact IntWalk.i64_in _ (by omega)
  have hil : (i : Int) < ws.length := by omega
  have hi0 : (0 : Int) ≤ (i : Int) := by omega
  have hbn : ¬ b = w.heap.size := by omega
  have hs0 : 1 ≤ size := by omega
  have hs8 : size ≤ 8 := by omega
  clear hc hA hws hx hia hs
  go_enter Try.func26, Try.ntmps26
  go_wp2_with fail
  refine Calls.mono (HG.out _) ?_
  rintro e w1 ⟨rfl, hb1⟩
  have hs1 := hb1.size
  try simp at hs1
  have HB1 := Lib.hid hb1
  clear hb1
  go_wp2
  go_ret
  exact ⟨rfl, (by repeat' (first | (with_reducible exact Below.refl _ _) | (with_reducible (refine Below.setCell ?_ ?_ _)) | (with_reducible (refine Below.alloc ?_ ?_ _)) | (with_reducible (refine Below.drew ?_)) | (with_reducible (refine below_via ?_ HB1.out ?_)) | omega | (simp; done) | (simp; omega)))⟩

set_option maxHeartbeats 1000000 in
theorem refWrite_any (A : Option Addr) (c : Nat) (ws : List Int) (at_ size v : Int) (w : World) (hn : ws.length ≤ 512) (hA : At w A 1 wordCells ws) (_hws : ∀ x ∈ ws, 0 ≤ x ∧ x ≤ 18446744073709551615)
    (hs : size = 1 ∨ size = 2 ∨ size = 4 ∨ size = 8) (h0 : 0 ≤ at_) (_h1 : at_ < 8 * ws.length) (i : Nat) (hi : i < ws.length) (hia : at_ / 8 = i) (x : Int) (hx : ws[i] = x) :
    Calls Try.prog 32 #[.agg #[.slice A ws.length c], .int .i64 at_, .int .i64 size, .int .u64 v] w fun e w' => ∃ A' c',
      e = .returned (.agg #[.slice A' ws.length c']) ∧ Own w' (w.heap.size + 2) wordT 1 wordCells (ws.set i (putOf x (at_ % 8 * 8) (maskOf size) v)) A' c' ∧ Below w.heap.size w w' := by
  have HM := Lib.hid (fun W => mask_any size hs W)
  have HP := Lib.hid (fun W => put_any x (at_ % 8 * 8) size (bits .and .u64 v (maskOf size)) (by omega) hs W)
  have HCP := Lib.hid (fun W (hb : Below w.heap.size w W) => CopyMem_any A c ws W (by omega) (hA.below hb))
  have hq : IntKind.i64.wrap (at_.tdiv 8) = (i : Int) := by
    rw [Int.tdiv_eq_ediv_of_nonneg h0, hia]; exact IntWalk.i64_in _ (by omega)
  have hil : (i : Int) < ws.length := by omega
  have hi0 : (0 : Int) ≤ (i : Int) := by omega
  have hs0 : 1 ≤ size := by omega
  have hs8 : size ≤ 8 := by omega
  have HXI := Lib.hid hx
  clear hA hx hia hs
  go_enter Try.func32, Try.ntmps32
  go_wp2_with fail
  refine Calls.mono (HCP.out _ (by repeat' (first | (with_reducible exact Below.refl _ _) | (with_reducible (refine Below.setCell ?_ ?_ _)) | (with_reducible (refine Below.alloc ?_ ?_ _)) | (with_reducible (refine Below.drew ?_)) | omega | (simp; done) | (simp; omega)))) ?_
  rintro e w2 ⟨A', c', rfl, hown, hb2⟩
  have hs2 := hb2.size
  try simp at hs2
  have hc2_0 := fun o => (bcell hb2).1 (w.heap.size) o (by first | omega | (simp; done) | (simp; omega))
  have hf2_0 := fun o => (bcell hb2).2.1 (w.heap.size) o (by first | omega | (simp; done) | (simp; omega))
  have hz2_0 := (bcell hb2).2.2 (w.heap.size) (by first | omega | (simp; done) | (simp; omega))
  have hc2_1 := fun o => (bcell hb2).1 (w.heap.size + 1) o (by first | omega | (simp; done) | (simp; omega))
  have hf2_1 := fun o => (bcell hb2).2.1 (w.heap.size + 1) o (by first | omega | (simp; done) | (simp; omega))
  have hz2_1 := (bcell hb2).2.2 (w.heap.size + 1) (by first | omega | (simp; done) | (simp; omega))
  have HB2 := Lib.hid hb2
  clear hb2
  have Hhown := Lib.hid hown
  clear hown
  go_wp2_with fail
  obtain ⟨g, rfl, hg1, hg2, hg3⟩ := Hhown.out.spot (by omega)
  simp at hg1
  have HGC := Lib.hid (Hhown.out.cell word_len hi (j := 0) rfl)
  have hgc : w2.cell? ⟨g, i, none⟩ = some (.int .u64 x) := by have := HGC.out; rw [HXI.out] at this; simpa using this
  have hgn : ¬ g = w2.heap.size := by omega
  have hgl : g < w2.heap.size + 1 := by omega
  have hq1 : at_.tmod 8 = at_ % 8 := Int.tmod_eq_emod_of_nonneg h0
  have hq2 : IntKind.i64.wrap (at_ % 8 * 8) = at_ % 8 * 8 := IntWalk.i64_in _ (by omega)
  have hq3 : IntKind.i64.wrap (8 * size) = 8 * size := IntWalk.i64_in _ (by omega)
  refine wp_region_class_tail 22 (fun w' => Below (w2.heap.size + 1) (w2.alloc (.cells #[.slice (some ⟨g, 0, none⟩) ws.length c'] 24)) w') (by kernel_rfl) (by kernel_rfl) (by kernel_rfl) (Below.refl _ _).drew ?_
  repeat (first
    | (refine wpLex_pass (by rfl) passes_plain ?_; (conv => arg 9; simp only [put_lit, put_lit_none, List.set]))
    | (refine wpLex_plain (by rfl) ?_
       apply Exists.intro
       refine ⟨?_, ?_⟩
       · intro w' hb
         have hsz := hb.size
         try simp at hsz
         have hcw := fun b o (h : b < w2.heap.size + 1) => hb.cell (p := ⟨b, o, none⟩) h
         have hfw := fun b o (h : b < w2.heap.size + 1) => hb.frozen (p := ⟨b, o, none⟩) h
         go_simp
         first
           | exact ⟨rfl, hb⟩
           | exact rfl
           | ((with_reducible refine Calls.mono (HM.out _) ?_); rintro e w2 ⟨rfl, rfl⟩; exact ⟨_, rfl, rfl, hb⟩)
           | ((with_reducible refine Calls.mono (HP.out _) ?_); rintro e w2 ⟨rfl, hb2⟩; exact ⟨_, rfl, rfl, hb.trans (hb2.mono hsz)⟩)
       conv => arg 9; simp only [put_lit, put_lit_none, List.set]))
  refine wpLex_nil ?_
  intro wr hbr
  have hsr := hbr.size
  try simp at hsr
  have hcr := fun b o (h : b < w2.heap.size + 1) => hbr.cell (p := ⟨b, o, none⟩) h
  have hfr := fun b o (h : b < w2.heap.size + 1) => hbr.frozen (p := ⟨b, o, none⟩) h
  have HBr := Lib.hid hbr
  clear hbr
  simp only [List.drop]
  clear hq1 hq2 hq3
  have hgf := hg3 i
  have hgb : ¬ w.heap.size + 1 = g := by omega
  have hg1' : ¬ g = w.heap.size + 1 := by omega
  go_wp2_with fail
  refine bodyPost_ret (v := .agg #[.slice (some ⟨g, 0, none⟩) ws.length c']) (by simp [results, Try.results32, go_sem, *]) rfl ⟨some ⟨g, 0, none⟩, c', rfl, ?_, ?_⟩
  · exact ((((((Hhown.out.alloc _).below HBr.out (by simp)).set1 word_len (i := i) (putOf x (at_ % 8 * 8) (maskOf size) v) _ rfl)).mono (by simp)).set_far (by simp) _)
  · repeat' (first | (with_reducible exact Below.refl _ _) | (with_reducible (refine Below.setCell ?_ ?_ _)) | (with_reducible (refine Below.alloc ?_ ?_ _)) | (with_reducible (refine Below.drew ?_)) | (with_reducible (refine below_via ?_ HBr.out ?_)) | (with_reducible (refine below_via ?_ HB2.out ?_)) | omega | (simp; done) | (simp; omega))

end Go.Proofs.Ytipepkmmjdlpoaa
