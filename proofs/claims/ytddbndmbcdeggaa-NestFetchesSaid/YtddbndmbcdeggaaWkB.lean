/-
  The walk's own small steps: whether there is a frame, a fault on the way, where a leaf leads. Conditions: the way's block reads as such.
-/
import Derived.Test.YtddbndmbcdeggaaWkA
namespace Go.Proofs.Ytddbndmbcdeggaa
open Go.RowKit

def wayT : TypeId := 79
def hitT : TypeId := 45
def faultT : TypeId := 47
def wayRow (A : Option Addr) (n c : Nat) (stage page : Int) (R : Option Addr) (k cr : Nat) : Array Value := #[.slice A n c, .int .i64 stage, .int .i64 page, .slice R k cr]

set_option maxHeartbeats 1000000 in
theorem wHas_any (g : Nat) (A : Option Addr) (n c : Nat) (stage page : Int) (R : Option Addr) (k cr : Nat) (frame : Int) (w : World) (hn : n ≤ 1000000) (hg : w.heap[g]? = some (.cells (wayRow A n c stage page R k cr) wayT (0, 0))) :
    Calls Try.prog 66 #[.pointer (some ⟨g, 0, none⟩), .int .i64 frame] w fun e w' => e = .returned (.bool (decide (frame < (n : Int) / 8))) ∧ Below w.heap.size w w' := by
  have x0 := cell_of_row _ _ 0 _ _ _ hg
  have xf := fun j => frozen_of_row _ _ j _ _ hg
  simp only [wayRow] at x0
  have hl := heap_lt hg
  clear hg
  go_enter Try.func66, Try.ntmps66
  go_wp2
  go_ret
  exact ⟨rfl, (by repeat' (first | (with_reducible exact Below.refl _ _) | (with_reducible (refine Below.setCell ?_ ?_ _)) | (with_reducible (refine Below.alloc ?_ ?_ _)) | (with_reducible (refine Below.drew ?_)) | omega | (simp; done) | (simp; omega)))⟩

set_option maxHeartbeats 2000000 in
theorem wFault_any (g : Nat) (A : Option Addr) (n c : Nat) (stage page : Int) (R : Option Addr) (k cr : Nat) (kind level : Int) (w : World) (hg : w.heap[g]? = some (.cells (wayRow A n c stage page R k cr) wayT (0, 0))) :
    Calls Try.prog 67 #[.pointer (some ⟨g, 0, none⟩), .int .i64 kind, .int .i64 level] w fun e w' => e = .returned (.agg #[.int .i64 kind, .int .i64 stage, .int .i64 level, .bool false, .int .i64 page]) ∧ Below w.heap.size w w' := by
  have HG := Lib.hid hg
  have hl := heap_lt hg
  clear hg
  go_enter Try.func67, Try.ntmps67
  go_upto_region 1 with fail
  refine name_world ?_
  intro w1 hw1
  have HG1 := Lib.hid (show w1.heap[g]? = some (.cells (wayRow A n c stage page R k cr) wayT (0, 0)) by rw [hw1]; exact (by repeat (first | (with_reducible assumption) | (with_reducible exact HG.out) | (exact heap_at _ _ (by simp; done)) | (with_reducible refine heap_old_is _ _ (by (first | omega | (simp; done) | (simp; omega))) ?_) | (with_reducible refine heap_far_is (by (first | omega | (simp; done) | (simp; omega))) ?_))))
  have HF1 := Lib.hid (show w1.heap[w.heap.size]? = some (.cells #[.int .i64 0, .int .i64 0, .int .i64 0, .bool false, .int .i64 0] faultT (0, 0)) by rw [hw1]; exact (by repeat (first | (with_reducible assumption) | (exact heap_at _ _ (by simp; done)) | (with_reducible refine heap_old_is _ _ (by (first | omega | (simp; done) | (simp; omega))) ?_) | (with_reducible refine heap_far_is (by (first | omega | (simp; done) | (simp; omega))) ?_))))
  have HB1 := Lib.hid (show Below w.heap.size w w1 by rw [hw1]; repeat' (first | (with_reducible exact Below.refl _ _) | (with_reducible (refine Below.setCell ?_ ?_ _)) | (with_reducible (refine Below.alloc ?_ ?_ _)) | (with_reducible (refine Below.drew ?_)) | omega | (simp; done) | (simp; omega)))
  have hs1 : w.heap.size + 1 ≤ w1.heap.size := by rw [hw1]; simp
  clear hw1
  have x1 := cell_of_row _ _ 1 _ _ _ HG1.out
  have x2 := cell_of_row _ _ 2 _ _ _ HG1.out
  have xf := fun j => frozen_of_row _ _ j _ _ HG1.out
  simp only [wayRow] at x1 x2
  have hl1 : g < w1.heap.size := by omega
  refine wp_region_class_tail 11 (fun w' => Below (w1.heap.size) (w1) w') (by kernel_rfl) (by kernel_rfl) (by kernel_rfl) (Below.refl _ _).drew ?_
  repeat (first
    | (refine wpLex_pass (by rfl) passes_plain ?_; (conv => arg 9; simp only [put_lit, put_lit_none, List.set]))
    | (refine wpLex_plain (by rfl) ?_
       apply Exists.intro
       refine ⟨?_, ?_⟩
       · intro w' hb
         have hsz := hb.size
         try simp at hsz
         have hcw := fun b o (h : b < w1.heap.size) => hb.cell (p := ⟨b, o, none⟩) h
         have hfw := fun b o (h : b < w1.heap.size) => hb.frozen (p := ⟨b, o, none⟩) h
         go_simp
         first
           | exact ⟨rfl, hb⟩
           | exact rfl
       conv => arg 9; simp only [put_lit, put_lit_none, List.set]))
  refine wpLex_nil ?_
  intro wq hbq
  have hsq := hbq.size
  try simp at hsq
  have hcq := fun b o (h : b < w1.heap.size) => hbq.cell (p := ⟨b, o, none⟩) h
  have hfq := fun b o (h : b < w1.heap.size) => hbq.frozen (p := ⟨b, o, none⟩) h
  have HBq := Lib.hid hbq
  clear hbq
  simp only [List.drop]
  have HFq := Lib.hid ((HBq.out.block _ (show w.heap.size < w1.heap.size by omega)).trans HF1.out)
  have e1 := fun j => cell_of_row _ _ j _ _ _ HFq.out
  have ef1 := fun j => frozen_of_row _ _ j _ _ HFq.out
  clear hcq hfq x1 x2 xf
  go_wp2
  refine bodyPost_ret (v := .agg #[.int .i64 kind, .int .i64 stage, .int .i64 level, .bool false, .int .i64 page]) (by simp [results, Try.results67, go_sem, *]) rfl ⟨rfl, ?_⟩
  repeat' (first | (with_reducible exact Below.refl _ _) | (with_reducible (refine Below.setCell ?_ ?_ _)) | (with_reducible (refine Below.alloc ?_ ?_ _)) | (with_reducible (refine Below.drew ?_)) | (with_reducible (refine below_via ?_ HBq.out ?_)) | (with_reducible (refine below_via ?_ HB1.out ?_)) | omega | (simp; done) | (simp; omega))

/-- Where a leaf leads. -/
def leafH (n : Nat) (level page : Int) (d : De) : Ht := if d.frame + page % coversOf level < (n : Int) / 8 then ⟨d.frame + page % coversOf level, 0, d.r, d.w, d.x, d.af, d.ng, d.soft, level⟩ else noHt
def leafF (n : Nat) (stage level page : Int) (d : De) : Ft := if d.frame + page % coversOf level < (n : Int) / 8 then noFt else ⟨1, stage, level, false, page⟩

def PairPost (w : World) (h : Ht) (f : Ft) (e : Ending) (w' : World) : Prop := e = .returned (.tuple #[.agg h.cells.toArray, .agg f.cells.toArray]) ∧ Below w.heap.size w w'

set_option maxRecDepth 100000 in
set_option maxHeartbeats 4000000 in
theorem wLeaf_any (g : Nat) (A : Option Addr) (n c : Nat) (stage page : Int) (R : Option Addr) (k cr : Nat) (d : De) (level : Int) (w : World) (hn : n ≤ 1000000) (hg : w.heap[g]? = some (.cells (wayRow A n c stage page R k cr) wayT (0, 0)))
    (h0 : 0 ≤ level) (h1 : level ≤ 3) (hp0 : 0 ≤ page) (hp1 : page ≤ 4095) (hd0 : 0 ≤ d.frame) (hd1 : d.frame ≤ 4095) :
    Calls Try.prog 68 #[.pointer (some ⟨g, 0, none⟩), .agg d.cells.toArray, .int .i64 level] w (PairPost w (leafH n level page d) (leafF n stage level page d)) := by
  have HG := Lib.hid hg
  have hl := heap_lt hg
  clear hg
  have HCV := Lib.hid (fun W => covers_any level W)
  have hlev : numOk level 3 = true := by unfold numOk; simp; omega
  simp only [hlev, if_true] at HCV
  obtain ⟨lh, hlh⟩ : ∃ x, leafH n level page d = x := ⟨_, rfl⟩
  obtain ⟨lf, hlf⟩ : ∃ x, leafF n stage level page d = x := ⟨_, rfl⟩
  rw [hlh, hlf]
  unfold leafH at hlh
  unfold leafF at hlf
  have hcv0 : 0 < coversOf level := covers_pos _
  generalize coversOf level = cv at *
  have hcv2 : ¬ cv = 0 := by omega
  have hcv3 : (cv == 0) = false := by simpa using hcv2
  have hmod : page.tmod cv = page % cv := Int.tmod_eq_emod_of_nonneg hp0
  have hm0 : 0 ≤ page % cv := Int.emod_nonneg _ (by omega)
  have hm1 : page % cv ≤ page := by
    have := Int.emod_nonneg page hcv2
    have := Int.mul_ediv_add_emod page cv
    have h5 : 0 ≤ cv * (page / cv) := Int.mul_nonneg (by omega) (Int.ediv_nonneg hp0 (by omega))
    omega
  obtain ⟨dk, df, dr, dw, dx, daf, dng, dso, dno⟩ := d
  dsimp only [De.cells] at *
  obtain ⟨pm, hpm⟩ : ∃ x, page % cv = x := ⟨_, rfl⟩
  rw [hpm] at hmod hm0 hm1 hlh hlf
  have HLH := Lib.hid hlh
  have HLF := Lib.hid hlf
  clear hpm hlev hlh hlf
  have hw1 : IntKind.i64.wrap pm = pm := IntWalk.i64_in _ (by omega)
  have hw2 : IntKind.i64.wrap (df + pm) = df + pm := IntWalk.i64_in _ (by omega)
  have HHA := Lib.hid (fun W (h : W.heap[g]? = some (.cells (wayRow A n c stage page R k cr) wayT (0, 0))) => wHas_any g A n c stage page R k cr (df + pm) W hn h)
  have HFA := Lib.hid (fun W (h : W.heap[g]? = some (.cells (wayRow A n c stage page R k cr) wayT (0, 0))) => wFault_any g A n c stage page R k cr 1 level W h)
  go_enter Try.func68, Try.ntmps68
  go_wp2_with fail
  refine Calls.mono (HCV.out _) ?_
  rintro e w1 ⟨rfl, hb1⟩
  have hs1 := hb1.size
  try simp at hs1
  have hc1_0 := fun o => (bcell hb1).1 (w.heap.size) o (by first | omega | (simp; done) | (simp; omega))
  have hf1_0 := fun o => (bcell hb1).2.1 (w.heap.size) o (by first | omega | (simp; done) | (simp; omega))
  have hz1_0 := (bcell hb1).2.2 (w.heap.size) (by first | omega | (simp; done) | (simp; omega))
  have hc1_1 := fun o => (bcell hb1).1 (w.heap.size + 1) o (by first | omega | (simp; done) | (simp; omega))
  have hf1_1 := fun o => (bcell hb1).2.1 (w.heap.size + 1) o (by first | omega | (simp; done) | (simp; omega))
  have hz1_1 := (bcell hb1).2.2 (w.heap.size + 1) (by first | omega | (simp; done) | (simp; omega))
  have hc1_2 := fun o => (bcell hb1).1 (w.heap.size + 2) o (by first | omega | (simp; done) | (simp; omega))
  have hf1_2 := fun o => (bcell hb1).2.1 (w.heap.size + 2) o (by first | omega | (simp; done) | (simp; omega))
  have hz1_2 := (bcell hb1).2.2 (w.heap.size + 2) (by first | omega | (simp; done) | (simp; omega))
  have HB1 := Lib.hid hb1
  clear hb1
  have HG1 := Lib.hid (show w1.heap[g]? = some (.cells (wayRow A n c stage page R k cr) wayT (0, 0)) from (by repeat (first | (with_reducible assumption) | (with_reducible exact HG.out) | (with_reducible refine heap_below_is HB1.out (by (first | omega | (simp; done) | (simp; omega))) ?_) | (exact heap_at _ _ (by simp; done)) | (with_reducible refine heap_old_is _ _ (by (first | omega | (simp; done) | (simp; omega))) ?_) | (with_reducible refine heap_far_is (by (first | omega | (simp; done) | (simp; omega))) ?_))))
  have x2 := cell_of_row _ _ 2 _ _ _ HG1.out
  have xf := fun j => frozen_of_row _ _ j _ _ HG1.out
  simp only [wayRow] at x2
  have hg1l := heap_lt HG1.out
  go_upto_region 2 with fail
  refine wp_region_class (fun w' => Below (w1.heap.size) (w1) w') (by kernel_rfl) (by kernel_rfl) (Below.refl _ _).drew ?_
  repeat (first
    | (refine wpLex_pass (by rfl) passes_plain ?_; (conv => arg 9; simp only [put_lit, put_lit_none, List.set]))
    | (refine wpLex_plain (by rfl) ?_
       apply Exists.intro
       refine ⟨?_, ?_⟩
       · intro w' hb
         have hsz := hb.size
         try simp at hsz
         have hcw := fun b o (h : b < w1.heap.size) => hb.cell (p := ⟨b, o, none⟩) h
         have hfw := fun b o (h : b < w1.heap.size) => hb.frozen (p := ⟨b, o, none⟩) h
         go_simp
         first
           | exact ⟨rfl, hb⟩
           | exact rfl
       conv => arg 9; simp only [put_lit, put_lit_none, List.set]))
  refine wpLex_nil ?_
  intro wq hbq
  have hsq := hbq.size
  try simp at hsq
  have hcq := fun b o (h : b < w1.heap.size) => hbq.cell (p := ⟨b, o, none⟩) h
  have hfq := fun b o (h : b < w1.heap.size) => hbq.frozen (p := ⟨b, o, none⟩) h
  have HBq := Lib.hid hbq
  clear hbq
  have HGq := Lib.hid ((HBq.out.block _ (heap_lt HG1.out)).trans HG1.out)
  clear x2 xf
  go_wp2_with fail
  refine Calls.mono (HHA.out _ HGq.out) ?_
  rintro e w2 ⟨rfl, hb2⟩
  have hs2 := hb2.size
  try simp at hs2
  have hc2_0 := fun o => (bcell hb2).1 (w.heap.size) o (by first | omega | (simp; done) | (simp; omega))
  have hf2_0 := fun o => (bcell hb2).2.1 (w.heap.size) o (by first | omega | (simp; done) | (simp; omega))
  have hz2_0 := (bcell hb2).2.2 (w.heap.size) (by first | omega | (simp; done) | (simp; omega))
  have hc2_1 := fun o => (bcell hb2).1 (w.heap.size + 1) o (by first | omega | (simp; done) | (simp; omega))
  have hf2_1 := fun o => (bcell hb2).2.1 (w.heap.size + 1) o (by first | omega | (simp; done) | (simp; omega))
  have hz2_1 := (bcell hb2).2.2 (w.heap.size + 1) (by first | omega | (simp; done) | (simp; omega))
  have hc2_2 := fun o => (bcell hb2).1 (w.heap.size + 2) o (by first | omega | (simp; done) | (simp; omega))
  have hf2_2 := fun o => (bcell hb2).2.1 (w.heap.size + 2) o (by first | omega | (simp; done) | (simp; omega))
  have hz2_2 := (bcell hb2).2.2 (w.heap.size + 2) (by first | omega | (simp; done) | (simp; omega))
  have HB2 := Lib.hid hb2
  clear hb2
  by_cases hlt : df + pm < (n : Int) / 8
  · obtain rfl : lh = _ := HLH.out.symm.trans (if_pos hlt)
    obtain rfl : lf = _ := HLF.out.symm.trans (if_pos hlt)
    clear HLH HLF
    have hq : decide (df + pm < (n : Int) / 8) = true := by simpa using hlt
    rw [hq]
    clear hlt hq
    go_wp2
    refine bodyPost_ret (v := .tuple #[.agg #[.int .i64 (df + pm), .int .i64 0, .bool dr, .bool dw, .bool dx, .bool daf, .bool dng, .int .i64 dso, .int .i64 level], .agg #[.int .i64 0, .int .i64 0, .int .i64 0, .bool false, .int .i64 0]]) (by simp [results, Try.results68, go_sem, *]) rfl ⟨rfl, ?_⟩
    repeat' (first | (with_reducible exact Below.refl _ _) | (with_reducible (refine Below.setCell ?_ ?_ _)) | (with_reducible (refine Below.alloc ?_ ?_ _)) | (with_reducible (refine Below.drew ?_)) | (with_reducible (refine below_via ?_ HB2.out ?_)) | (with_reducible (refine below_via ?_ HBq.out ?_)) | (with_reducible (refine below_via ?_ HB1.out ?_)) | omega | (simp; done) | (simp; omega))
  · obtain rfl : lh = _ := HLH.out.symm.trans (if_neg hlt)
    obtain rfl : lf = _ := HLF.out.symm.trans (if_neg hlt)
    clear HLH HLF
    have hq : decide (df + pm < (n : Int) / 8) = false := by simpa using hlt
    rw [hq]
    clear hlt hq
    go_wp2_with fail
    refine Calls.mono (HFA.out _ ((HB2.out.block _ (heap_lt HGq.out)).trans HGq.out)) ?_
    rintro e w3 ⟨rfl, hb3⟩
    have hs3 := hb3.size
    try simp at hs3
    have hc3_0 := fun o => (bcell hb3).1 (w.heap.size + 1) o (by first | omega | (simp; done) | (simp; omega))
    have hf3_0 := fun o => (bcell hb3).2.1 (w.heap.size + 1) o (by first | omega | (simp; done) | (simp; omega))
    have hz3_0 := (bcell hb3).2.2 (w.heap.size + 1) (by first | omega | (simp; done) | (simp; omega))
    have hc3_1 := fun o => (bcell hb3).1 (w.heap.size + 2) o (by first | omega | (simp; done) | (simp; omega))
    have hf3_1 := fun o => (bcell hb3).2.1 (w.heap.size + 2) o (by first | omega | (simp; done) | (simp; omega))
    have hz3_1 := (bcell hb3).2.2 (w.heap.size + 2) (by first | omega | (simp; done) | (simp; omega))
    have HB3 := Lib.hid hb3
    clear hb3
    go_wp2
    refine bodyPost_ret (v := .tuple #[.agg noHt.cells.toArray, .agg #[.int .i64 1, .int .i64 stage, .int .i64 level, .bool false, .int .i64 page]]) (by simp [noHt, Ht.cells, results, Try.results68, go_sem, *]) rfl ⟨rfl, ?_⟩
    repeat' (first | (with_reducible exact Below.refl _ _) | (with_reducible (refine Below.setCell ?_ ?_ _)) | (with_reducible (refine Below.alloc ?_ ?_ _)) | (with_reducible (refine Below.drew ?_)) | (with_reducible (refine below_via ?_ HB3.out ?_)) | (with_reducible (refine below_via ?_ HB2.out ?_)) | (with_reducible (refine below_via ?_ HBq.out ?_)) | (with_reducible (refine below_via ?_ HB1.out ?_)) | omega | (simp; done) | (simp; omega))

end Go.Proofs.Ytddbndmbcdeggaa
