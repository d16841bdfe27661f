/-
  What 'perm.Both' and the page's own 'Both' hand back: the attributes, taken together one by one. Conditions: the row has fewer than 2^63 - 1 elements.
-/
import Derived.Test.YtddbndmbcdeggaaRows
import Derived.Test.YtddbndmbcdeggaaBase
import Derived.Test.YtddbndmbcdeggaaOrder
namespace Go.Proofs.Ytddbndmbcdeggaa
open Go.RowKit

structure Attr where
  r : Bool
  w : Bool
  x : Bool
  af : Bool
  ng : Bool
  soft : Int

def Attr.cells (a : Attr) : List Value := [.bool a.r, .bool a.w, .bool a.x, .bool a.af, .bool a.ng, .int .i64 a.soft]
def both1 (o a : Attr) : Attr := ⟨o.r && a.r, o.w && a.w, o.x && a.x, o.af && a.af, o.ng || a.ng, o.soft⟩
def both (l : List Attr) : Attr := l.foldl both1 ⟨true, true, true, true, false, 0⟩
theorem both_take (l : List Attr) (k : Nat) (h : k < l.length) : both (l.take (k + 1)) = both1 (both (l.take k)) l[k] := by
  unfold both
  rw [List.take_succ_eq_append_getElem h, List.foldl_append]
  rfl

def attrT : TypeId := 31

/-- The world at a round's head: the result's block, the sum's block. -/
structure BothAt (w : World) (o : Attr) (wr : World) : Prop where
  below : Below w.heap.size w wr
  size : w.heap.size + 1 < wr.heap.size
  h2 : wr.heap[w.heap.size]? = some (.cells #[.bool false, .bool false, .bool false, .bool false, .bool false, .int .i64 0] attrT (0, 0))
  h3 : wr.heap[w.heap.size + 1]? = some (.cells o.cells.toArray attrT (0, 0))

theorem BothAt.start (w : World) : BothAt w (both []) ((w.alloc (.cells #[.bool false, .bool false, .bool false, .bool false, .bool false, .int .i64 0] attrT)).alloc (.cells #[.bool true, .bool true, .bool true, .bool true, .bool false, .int .i64 0] attrT)) := by
  refine ⟨((Below.refl _ _).alloc (Nat.le_refl _) _).alloc (by simp) _, by simp, ?_, ?_⟩
  · rw [heap_old _ _ (by simp)]; exact heap_new _ _
  · have := heap_new (w.alloc (.cells #[.bool false, .bool false, .bool false, .bool false, .bool false, .int .i64 0] attrT)) (.cells #[.bool true, .bool true, .bool true, .bool true, .bool false, .int .i64 0] attrT)
    rw [size_new] at this
    exact this

/-- The worlds of the drawn region: which of the five stores are done. -/
structure BothC (w wr : World) (r1 w1 x1 f1 n1 : Bool) (s1 : Int) (r2 w2 x2 f2 n2 : Bool) (s2 : Int) (d : Nat → Bool) (w' : World) : Prop where
  below : Below w.heap.size w w'
  lt : w.heap.size + 1 < wr.heap.size
  size : wr.heap.size < w'.heap.size
  h2 : w'.heap[w.heap.size]? = some (.cells #[.bool false, .bool false, .bool false, .bool false, .bool false, .int .i64 0] attrT (0, 0))
  h3 : w'.heap[w.heap.size + 1]? = some (.cells #[.bool (if d 31 then r1 && r2 else r1), .bool (if d 33 then w1 && w2 else w1), .bool (if d 35 then x1 && x2 else x1), .bool (if d 37 then f1 && f2 else f1), .bool (if d 39 then n1 || n2 else n1), .int .i64 s1] attrT (0, 0))
  h5 : w'.heap[wr.heap.size]? = some (.cells #[.bool r2, .bool w2, .bool x2, .bool f2, .bool n2, .int .i64 s2] attrT (0, 0))

section
variable {w wr : World} {r1 w1 x1 f1 n1 : Bool} {s1 : Int} {r2 w2 x2 f2 n2 : Bool} {s2 : Int} {d : Nat → Bool} {w' : World}
theorem BothC.start (h : BothAt w ⟨r1, w1, x1, f1, n1, s1⟩ wr) :
    BothC w wr r1 w1 x1 f1 n1 s1 r2 w2 x2 f2 n2 s2 (fun _ => false) (wr.alloc (.cells #[.bool r2, .bool w2, .bool x2, .bool f2, .bool n2, .int .i64 s2] attrT)).drew := by
  have hs := h.size
  refine ⟨(h.below.alloc (by omega) _).drew, h.size, by show wr.heap.size < (wr.alloc _).heap.size; simp, ?_, ?_, ?_⟩
  · show (wr.alloc _).heap[w.heap.size]? = _
    rw [heap_old _ _ (by omega)]; exact h.h2
  · show (wr.alloc _).heap[w.heap.size + 1]? = _
    rw [heap_old _ _ (by omega)]; exact h.h3
  · exact heap_new _ _
theorem BothC.same {d' : Nat → Bool} (h : BothC w wr r1 w1 x1 f1 n1 s1 r2 w2 x2 f2 n2 s2 d w') (e0 : d' 31 = d 31) (e1 : d' 33 = d 33) (e2 : d' 35 = d 35) (e3 : d' 37 = d 37) (e4 : d' 39 = d 39) :
    BothC w wr r1 w1 x1 f1 n1 s1 r2 w2 x2 f2 n2 s2 d' w' := by
  refine ⟨h.below, h.lt, h.size, h.h2, ?_, h.h5⟩
  rw [e0, e1, e2, e3, e4]
  exact h.h3
theorem BothC.fin (h : BothC w wr r1 w1 x1 f1 n1 s1 r2 w2 x2 f2 n2 s2 d w') (d0 : d 31 = true) (d1 : d 33 = true) (d2 : d 35 = true) (d3 : d 37 = true) (d4 : d 39 = true) :
    BothAt w (both1 ⟨r1, w1, x1, f1, n1, s1⟩ ⟨r2, w2, x2, f2, n2, s2⟩) w' := by
  have hl := h.lt
  have hs := h.size
  refine ⟨h.below, by omega, h.h2, ?_⟩
  have h3 := h.h3
  rw [d0, d1, d2, d3, d4] at h3
  exact h3
theorem BothC.store0 (h : BothC w wr r1 w1 x1 f1 n1 s1 r2 w2 x2 f2 n2 s2 d w') :
    BothC w wr r1 w1 x1 f1 n1 s1 r2 w2 x2 f2 n2 s2 (done1 d 31) (w'.setCell ⟨w.heap.size + 1, 0, none⟩ (.bool (r1 && r2))) := by
  have hl := h.lt
  have hs := h.size
  refine ⟨h.below.setCell (by simp) _, h.lt, by rw [size_set]; exact h.size, ?_, ?_, ?_⟩
  · rw [heap_set_other (by simp)]; exact h.h2
  · exact heap_set_same h.h3 0 _
  · rw [heap_set_other (by simp; omega)]; exact h.h5
theorem BothC.store1 (h : BothC w wr r1 w1 x1 f1 n1 s1 r2 w2 x2 f2 n2 s2 d w') :
    BothC w wr r1 w1 x1 f1 n1 s1 r2 w2 x2 f2 n2 s2 (done1 d 33) (w'.setCell ⟨w.heap.size + 1, 1, none⟩ (.bool (w1 && w2))) := by
  have hl := h.lt
  have hs := h.size
  refine ⟨h.below.setCell (by simp) _, h.lt, by rw [size_set]; exact h.size, ?_, ?_, ?_⟩
  · rw [heap_set_other (by simp)]; exact h.h2
  · exact heap_set_same h.h3 1 _
  · rw [heap_set_other (by simp; omega)]; exact h.h5
theorem BothC.store2 (h : BothC w wr r1 w1 x1 f1 n1 s1 r2 w2 x2 f2 n2 s2 d w') :
    BothC w wr r1 w1 x1 f1 n1 s1 r2 w2 x2 f2 n2 s2 (done1 d 35) (w'.setCell ⟨w.heap.size + 1, 2, none⟩ (.bool (x1 && x2))) := by
  have hl := h.lt
  have hs := h.size
  refine ⟨h.below.setCell (by simp) _, h.lt, by rw [size_set]; exact h.size, ?_, ?_, ?_⟩
  · rw [heap_set_other (by simp)]; exact h.h2
  · exact heap_set_same h.h3 2 _
  · rw [heap_set_other (by simp; omega)]; exact h.h5
theorem BothC.store3 (h : BothC w wr r1 w1 x1 f1 n1 s1 r2 w2 x2 f2 n2 s2 d w') :
    BothC w wr r1 w1 x1 f1 n1 s1 r2 w2 x2 f2 n2 s2 (done1 d 37) (w'.setCell ⟨w.heap.size + 1, 3, none⟩ (.bool (f1 && f2))) := by
  have hl := h.lt
  have hs := h.size
  refine ⟨h.below.setCell (by simp) _, h.lt, by rw [size_set]; exact h.size, ?_, ?_, ?_⟩
  · rw [heap_set_other (by simp)]; exact h.h2
  · exact heap_set_same h.h3 3 _
  · rw [heap_set_other (by simp; omega)]; exact h.h5
theorem BothC.store4 (h : BothC w wr r1 w1 x1 f1 n1 s1 r2 w2 x2 f2 n2 s2 d w') :
    BothC w wr r1 w1 x1 f1 n1 s1 r2 w2 x2 f2 n2 s2 (done1 d 39) (w'.setCell ⟨w.heap.size + 1, 4, none⟩ (.bool (n1 || n2))) := by
  have hl := h.lt
  have hs := h.size
  refine ⟨h.below.setCell (by simp) _, h.lt, by rw [size_set]; exact h.size, ?_, ?_, ?_⟩
  · rw [heap_set_other (by simp)]; exact h.h2
  · exact heap_set_same h.h3 4 _
  · rw [heap_set_other (by simp; omega)]; exact h.h5
end

set_option maxRecDepth 100000 in
set_option maxHeartbeats 2000000 in
/-- What any attributes may together. -/
theorem both_any (A : Option Addr) (c : Nat) (l : List Attr) (w : World) (hn : (l.length : Int) ≤ 9223372036854775806) (hA : At w A 6 Attr.cells l) :
    Calls Try.prog 47 #[.slice A l.length c] w fun e w' => e = .returned (.agg (both l).cells.toArray) ∧ Below w.heap.size w w' := by
  have HA := Lib.hid hA; clear hA
  go_enter Try.func47, Try.ntmps47
  go_wp2
  go_loopw [5, 9] (fun _ i wr => ∃ k : Nat, k ≤ l.length ∧ i = .int .i64 k ∧ BothAt w (both (l.take k)) wr) (fun _ i _ => l.length - (intOf i).toNat)
  case atStart =>
    refine ⟨0, Nat.zero_le _, rfl, ?_⟩
    exact BothAt.start w
  case round =>
    obtain ⟨k, hk, rfl, hat⟩ := hrel
    by_cases hlt : k < l.length
    · obtain ⟨b, off, rfl, hbl, hc'⟩ := HA.out (by omega)
      have hc : ∀ j u, (l[k].cells)[j]? = some u → wr.cell? ⟨b, off + k * 6 + j, none⟩ = some u := fun j u h => by
        rw [hat.below.cell hbl]; exact hc' k hlt j u h
      have HK := Lib.hid (both_take l k hlt)
      have HB := Lib.hid hat
      have hsz := hat.size
      clear hat hc' HA
      generalize both (l.take k) = o at *
      generalize l[k] = a at *
      obtain ⟨r1, w1, x1, f1, n1, s1⟩ := o
      obtain ⟨r2, w2, x2, f2, n2, s2⟩ := a
      have c0 := hc 0 _ rfl
      have c1 := hc 1 _ rfl
      have c2 := hc 2 _ rfl
      have c3 := hc 3 _ rfl
      have c4 := hc 4 _ rfl
      have c5 := hc 5 _ rfl
      clear hc
      simp only [Nat.add_zero] at c0 c1 c2 c3 c4 c5
      go_wp2
      clear c0 c1 c2 c3 c4 c5
      refine wp_region_done (BothC w wr r1 w1 x1 f1 n1 s1 r2 w2 x2 f2 n2 s2) (by kernel_rfl) (by kernel_rfl) (BothC.start HB.out) ?_
      refine wpLex_want (.pointer (some ⟨w.heap.size + 1, 0, none⟩)) rfl (comes_done ?_) ?_
      · intro d w' hm hC; go_simp; exact hC.same rfl rfl rfl rfl rfl
      conv => arg 9; simp only [put_lit, put_lit_none, List.set]
      refine wpLex_want (.bool r1) rfl (comes_done ?_) ?_
      · intro d w' hm hC; have e := cell_of_row _ _ 0 _ _ _ hC.h3; simp [hm.not_yet 31 (by kernel_rfl)] at e; go_simp; exact hC.same rfl rfl rfl rfl rfl
      conv => arg 9; simp only [put_lit, put_lit_none, List.set]
      refine wpLex_want (.bool r1) rfl (comes_done ?_) ?_
      · intro d w' hm hC; go_simp; exact hC.same rfl rfl rfl rfl rfl
      conv => arg 9; simp only [put_lit, put_lit_none, List.set]
      refine wpLex_guard (r1) (.pointer (some ⟨wr.heap.size, 0, none⟩)) (by cases r1 <;> rfl) (fun hg => comes_done ?_) (fun _ => passes_done (fun d w' _ h => h.same rfl rfl rfl rfl rfl)) ?_
      · intro d w' hm hC; subst hg; go_simp; exact hC.same rfl rfl rfl rfl rfl
      conv => arg 9; simp only [put_lit, put_lit_none, List.set]
      refine wpLex_guard (r1) (.bool r2) (by cases r1 <;> rfl) (fun hg => comes_done ?_) (fun _ => passes_done (fun d w' _ h => h.same rfl rfl rfl rfl rfl)) ?_
      · intro d w' hm hC; subst hg; have e := cell_of_row _ _ 0 _ _ _ hC.h5; simp at e; go_simp; exact hC.same rfl rfl rfl rfl rfl
      conv => arg 9; simp only [put_lit, put_lit_none, List.set]
      refine wpLex_want (.bool (r1 && r2)) rfl (comes_done ?_) ?_
      · intro d w' hm hC; cases r1 <;> (go_simp; exact hC.same rfl rfl rfl rfl rfl)
      conv => arg 9; simp only [put_lit, put_lit_none, List.set]
      refine wpLex_want (.pointer (some ⟨w.heap.size + 1, 1, none⟩)) rfl (comes_done ?_) ?_
      · intro d w' hm hC; go_simp; exact hC.same rfl rfl rfl rfl rfl
      conv => arg 9; simp only [put_lit, put_lit_none, List.set]
      refine wpLex_want (.bool w1) rfl (comes_done ?_) ?_
      · intro d w' hm hC; have e := cell_of_row _ _ 1 _ _ _ hC.h3; simp [hm.not_yet 33 (by kernel_rfl)] at e; go_simp; exact hC.same rfl rfl rfl rfl rfl
      conv => arg 9; simp only [put_lit, put_lit_none, List.set]
      refine wpLex_want (.bool w1) rfl (comes_done ?_) ?_
      · intro d w' hm hC; go_simp; exact hC.same rfl rfl rfl rfl rfl
      conv => arg 9; simp only [put_lit, put_lit_none, List.set]
      refine wpLex_guard (w1) (.pointer (some ⟨wr.heap.size, 1, none⟩)) (by cases w1 <;> rfl) (fun hg => comes_done ?_) (fun _ => passes_done (fun d w' _ h => h.same rfl rfl rfl rfl rfl)) ?_
      · intro d w' hm hC; subst hg; go_simp; exact hC.same rfl rfl rfl rfl rfl
      conv => arg 9; simp only [put_lit, put_lit_none, List.set]
      refine wpLex_guard (w1) (.bool w2) (by cases w1 <;> rfl) (fun hg => comes_done ?_) (fun _ => passes_done (fun d w' _ h => h.same rfl rfl rfl rfl rfl)) ?_
      · intro d w' hm hC; subst hg; have e := cell_of_row _ _ 1 _ _ _ hC.h5; simp at e; go_simp; exact hC.same rfl rfl rfl rfl rfl
      conv => arg 9; simp only [put_lit, put_lit_none, List.set]
      refine wpLex_want (.bool (w1 && w2)) rfl (comes_done ?_) ?_
      · intro d w' hm hC; cases w1 <;> (go_simp; exact hC.same rfl rfl rfl rfl rfl)
      conv => arg 9; simp only [put_lit, put_lit_none, List.set]
      refine wpLex_want (.pointer (some ⟨w.heap.size + 1, 2, none⟩)) rfl (comes_done ?_) ?_
      · intro d w' hm hC; go_simp; exact hC.same rfl rfl rfl rfl rfl
      conv => arg 9; simp only [put_lit, put_lit_none, List.set]
      refine wpLex_want (.bool x1) rfl (comes_done ?_) ?_
      · intro d w' hm hC; have e := cell_of_row _ _ 2 _ _ _ hC.h3; simp [hm.not_yet 35 (by kernel_rfl)] at e; go_simp; exact hC.same rfl rfl rfl rfl rfl
      conv => arg 9; simp only [put_lit, put_lit_none, List.set]
      refine wpLex_want (.bool x1) rfl (comes_done ?_) ?_
      · intro d w' hm hC; go_simp; exact hC.same rfl rfl rfl rfl rfl
      conv => arg 9; simp only [put_lit, put_lit_none, List.set]
      refine wpLex_guard (x1) (.pointer (some ⟨wr.heap.size, 2, none⟩)) (by cases x1 <;> rfl) (fun hg => comes_done ?_) (fun _ => passes_done (fun d w' _ h => h.same rfl rfl rfl rfl rfl)) ?_
      · intro d w' hm hC; subst hg; go_simp; exact hC.same rfl rfl rfl rfl rfl
      conv => arg 9; simp only [put_lit, put_lit_none, List.set]
      refine wpLex_guard (x1) (.bool x2) (by cases x1 <;> rfl) (fun hg => comes_done ?_) (fun _ => passes_done (fun d w' _ h => h.same rfl rfl rfl rfl rfl)) ?_
      · intro d w' hm hC; subst hg; have e := cell_of_row _ _ 2 _ _ _ hC.h5; simp at e; go_simp; exact hC.same rfl rfl rfl rfl rfl
      conv => arg 9; simp only [put_lit, put_lit_none, List.set]
      refine wpLex_want (.bool (x1 && x2)) rfl (comes_done ?_) ?_
      · intro d w' hm hC; cases x1 <;> (go_simp; exact hC.same rfl rfl rfl rfl rfl)
      conv => arg 9; simp only [put_lit, put_lit_none, List.set]
      refine wpLex_want (.pointer (some ⟨w.heap.size + 1, 3, none⟩)) rfl (comes_done ?_) ?_
      · intro d w' hm hC; go_simp; exact hC.same rfl rfl rfl rfl rfl
      conv => arg 9; simp only [put_lit, put_lit_none, List.set]
      refine wpLex_want (.bool f1) rfl (comes_done ?_) ?_
      · intro d w' hm hC; have e := cell_of_row _ _ 3 _ _ _ hC.h3; simp [hm.not_yet 37 (by kernel_rfl)] at e; go_simp; exact hC.same rfl rfl rfl rfl rfl
      conv => arg 9; simp only [put_lit, put_lit_none, List.set]
      refine wpLex_want (.bool f1) rfl (comes_done ?_) ?_
      · intro d w' hm hC; go_simp; exact hC.same rfl rfl rfl rfl rfl
      conv => arg 9; simp only [put_lit, put_lit_none, List.set]
      refine wpLex_guard (f1) (.pointer (some ⟨wr.heap.size, 3, none⟩)) (by cases f1 <;> rfl) (fun hg => comes_done ?_) (fun _ => passes_done (fun d w' _ h => h.same rfl rfl rfl rfl rfl)) ?_
      · intro d w' hm hC; subst hg; go_simp; exact hC.same rfl rfl rfl rfl rfl
      conv => arg 9; simp only [put_lit, put_lit_none, List.set]
      refine wpLex_guard (f1) (.bool f2) (by cases f1 <;> rfl) (fun hg => comes_done ?_) (fun _ => passes_done (fun d w' _ h => h.same rfl rfl rfl rfl rfl)) ?_
      · intro d w' hm hC; subst hg; have e := cell_of_row _ _ 3 _ _ _ hC.h5; simp at e; go_simp; exact hC.same rfl rfl rfl rfl rfl
      conv => arg 9; simp only [put_lit, put_lit_none, List.set]
      refine wpLex_want (.bool (f1 && f2)) rfl (comes_done ?_) ?_
      · intro d w' hm hC; cases f1 <;> (go_simp; exact hC.same rfl rfl rfl rfl rfl)
      conv => arg 9; simp only [put_lit, put_lit_none, List.set]
      refine wpLex_want (.pointer (some ⟨w.heap.size + 1, 4, none⟩)) rfl (comes_done ?_) ?_
      · intro d w' hm hC; go_simp; exact hC.same rfl rfl rfl rfl rfl
      conv => arg 9; simp only [put_lit, put_lit_none, List.set]
      refine wpLex_want (.bool n1) rfl (comes_done ?_) ?_
      · intro d w' hm hC; have e := cell_of_row _ _ 4 _ _ _ hC.h3; simp [hm.not_yet 39 (by kernel_rfl)] at e; go_simp; exact hC.same rfl rfl rfl rfl rfl
      conv => arg 9; simp only [put_lit, put_lit_none, List.set]
      refine wpLex_want (.bool n1) rfl (comes_done ?_) ?_
      · intro d w' hm hC; go_simp; exact hC.same rfl rfl rfl rfl rfl
      conv => arg 9; simp only [put_lit, put_lit_none, List.set]
      refine wpLex_guard (!n1) (.pointer (some ⟨wr.heap.size, 4, none⟩)) (by cases n1 <;> rfl) (fun hg => comes_done ?_) (fun _ => passes_done (fun d w' _ h => h.same rfl rfl rfl rfl rfl)) ?_
      · intro d w' hm hC; obtain rfl : n1 = false := (by simpa using hg); go_simp; exact hC.same rfl rfl rfl rfl rfl
      conv => arg 9; simp only [put_lit, put_lit_none, List.set]
      refine wpLex_guard (!n1) (.bool n2) (by cases n1 <;> rfl) (fun hg => comes_done ?_) (fun _ => passes_done (fun d w' _ h => h.same rfl rfl rfl rfl rfl)) ?_
      · intro d w' hm hC; obtain rfl : n1 = false := (by simpa using hg); have e := cell_of_row _ _ 4 _ _ _ hC.h5; simp at e; go_simp; exact hC.same rfl rfl rfl rfl rfl
      conv => arg 9; simp only [put_lit, put_lit_none, List.set]
      refine wpLex_want (.bool (n1 || n2)) rfl (comes_done ?_) ?_
      · intro d w' hm hC; cases n1 <;> (go_simp; exact hC.same rfl rfl rfl rfl rfl)
      conv => arg 9; simp only [put_lit, put_lit_none, List.set]
      refine wpLex_want (.pointer (some ⟨w.heap.size + 1, 0, none⟩)) rfl (comes_done ?_) ?_
      · intro d w' hm hC; go_simp; exact hC.same rfl rfl rfl rfl rfl
      conv => arg 9; simp only [put_lit, put_lit_none, List.set]
      refine wpLex_want undef rfl (comes_done ?_) ?_
      · intro d w' hm hC; have e := cell_of_row _ _ 0 _ _ _ hC.h3; have z := frozen_of_row _ _ 0 _ _ hC.h3; simp at e z; go_simp; exact hC.store0
      conv => arg 9; simp only [put_lit, put_lit_none, List.set]
      refine wpLex_want (.pointer (some ⟨w.heap.size + 1, 1, none⟩)) rfl (comes_done ?_) ?_
      · intro d w' hm hC; go_simp; exact hC.same rfl rfl rfl rfl rfl
      conv => arg 9; simp only [put_lit, put_lit_none, List.set]
      refine wpLex_want undef rfl (comes_done ?_) ?_
      · intro d w' hm hC; have e := cell_of_row _ _ 1 _ _ _ hC.h3; have z := frozen_of_row _ _ 1 _ _ hC.h3; simp at e z; go_simp; exact hC.store1
      conv => arg 9; simp only [put_lit, put_lit_none, List.set]
      refine wpLex_want (.pointer (some ⟨w.heap.size + 1, 2, none⟩)) rfl (comes_done ?_) ?_
      · intro d w' hm hC; go_simp; exact hC.same rfl rfl rfl rfl rfl
      conv => arg 9; simp only [put_lit, put_lit_none, List.set]
      refine wpLex_want undef rfl (comes_done ?_) ?_
      · intro d w' hm hC; have e := cell_of_row _ _ 2 _ _ _ hC.h3; have z := frozen_of_row _ _ 2 _ _ hC.h3; simp at e z; go_simp; exact hC.store2
      conv => arg 9; simp only [put_lit, put_lit_none, List.set]
      refine wpLex_want (.pointer (some ⟨w.heap.size + 1, 3, none⟩)) rfl (comes_done ?_) ?_
      · intro d w' hm hC; go_simp; exact hC.same rfl rfl rfl rfl rfl
      conv => arg 9; simp only [put_lit, put_lit_none, List.set]
      refine wpLex_want undef rfl (comes_done ?_) ?_
      · intro d w' hm hC; have e := cell_of_row _ _ 3 _ _ _ hC.h3; have z := frozen_of_row _ _ 3 _ _ hC.h3; simp at e z; go_simp; exact hC.store3
      conv => arg 9; simp only [put_lit, put_lit_none, List.set]
      refine wpLex_want (.pointer (some ⟨w.heap.size + 1, 4, none⟩)) rfl (comes_done ?_) ?_
      · intro d w' hm hC; go_simp; exact hC.same rfl rfl rfl rfl rfl
      conv => arg 9; simp only [put_lit, put_lit_none, List.set]
      refine wpLex_want undef rfl (comes_done ?_) ?_
      · intro d w' hm hC; have e := cell_of_row _ _ 4 _ _ _ hC.h3; have z := frozen_of_row _ _ 4 _ _ hC.h3; simp at e z; go_simp; exact hC.store4
      conv => arg 9; simp only [put_lit, put_lit_none, List.set]
      refine wpLex_nil ?_
      intro w' d hd hC
      have HE := Lib.hid (hC.fin (hd 31 (by decide)) (hd 33 (by decide)) (hd 35 (by decide)) (hd 37 (by decide)) (hd 39 (by decide)))
      clear hC hd HB
      go_wp2
      go_roundw
      case rel => exact ⟨k + 1, by omega, by go_num, by rw [HK.out]; exact HE.out⟩
      case measure => simp [intOf]; omega
    · obtain rfl : k = l.length := by omega
      have hB2 := hat.h2
      have hB3 := hat.h3
      have HB := Lib.hid hat
      rw [List.take_length] at hB3
      clear hat HA hlt
      generalize ho : both l = o at *
      have HO := Lib.hid ho
      clear ho
      obtain ⟨r1, w1, x1, f1, n1, s1⟩ := o
      have e0 := cell_of_row _ _ 0 _ _ _ hB3
      have e1 := cell_of_row _ _ 1 _ _ _ hB3
      have e2 := cell_of_row _ _ 2 _ _ _ hB3
      have e3 := cell_of_row _ _ 3 _ _ _ hB3
      have e4 := cell_of_row _ _ 4 _ _ _ hB3
      have e5 := cell_of_row _ _ 5 _ _ _ hB3
      have d0 := cell_of_row _ _ 0 _ _ _ hB2
      have d1 := cell_of_row _ _ 1 _ _ _ hB2
      have d2 := cell_of_row _ _ 2 _ _ _ hB2
      have d3 := cell_of_row _ _ 3 _ _ _ hB2
      have d4 := cell_of_row _ _ 4 _ _ _ hB2
      have d5 := cell_of_row _ _ 5 _ _ _ hB2
      have z := fun j => frozen_of_row _ _ j _ _ hB2
      simp [Attr.cells] at e0 e1 e2 e3 e4 e5 d0 d1 d2 d3 d4 d5
      have HB3 := Lib.hid hB3
      have HB2 := Lib.hid hB2
      clear hB2 hB3
      go_wp2
      refine bodyPost_ret (v := .agg #[.bool r1, .bool w1, .bool x1, .bool f1, .bool n1, .int .i64 s1]) (by simp [results, Try.results47, go_sem, d0, d1, d2, d3, d4, d5]) rfl ⟨by rw [HO.out]; rfl, ?_⟩
      exact (((((HB.out.below.setCell (by simp) _).setCell (by simp) _).setCell (by simp) _).setCell (by simp) _).setCell (by simp) _).setCell (by simp) _

set_option maxRecDepth 100000 in
set_option maxHeartbeats 2000000 in
/-- What any attributes may together. -/
theorem refBoth_any (A : Option Addr) (c : Nat) (l : List Attr) (w : World) (hn : (l.length : Int) ≤ 9223372036854775806) (hA : At w A 6 Attr.cells l) :
    Calls Try.prog 53 #[.slice A l.length c] w fun e w' => e = .returned (.agg (both l).cells.toArray) ∧ Below w.heap.size w w' := by
  have HA := Lib.hid hA; clear hA
  go_enter Try.func53, Try.ntmps53
  go_wp2
  go_loopw [4, 5] (fun i _ wr => ∃ k : Nat, k ≤ l.length ∧ i = .int .i64 k ∧ BothAt w (both (l.take k)) wr) (fun i _ _ => l.length - (intOf i).toNat)
  case atStart =>
    refine ⟨0, Nat.zero_le _, rfl, ?_⟩
    exact BothAt.start w
  case round =>
    obtain ⟨k, hk, rfl, hat⟩ := hrel
    by_cases hlt : k < l.length
    · obtain ⟨b, off, rfl, hbl, hc'⟩ := HA.out (by omega)
      have hc : ∀ j u, (l[k].cells)[j]? = some u → wr.cell? ⟨b, off + k * 6 + j, none⟩ = some u := fun j u h => by
        rw [hat.below.cell hbl]; exact hc' k hlt j u h
      have HK := Lib.hid (both_take l k hlt)
      have HB := Lib.hid hat
      have hsz := hat.size
      clear hat hc' HA
      generalize both (l.take k) = o at *
      generalize l[k] = a at *
      obtain ⟨r1, w1, x1, f1, n1, s1⟩ := o
      obtain ⟨r2, w2, x2, f2, n2, s2⟩ := a
      have c0 := hc 0 _ rfl
      have c1 := hc 1 _ rfl
      have c2 := hc 2 _ rfl
      have c3 := hc 3 _ rfl
      have c4 := hc 4 _ rfl
      have c5 := hc 5 _ rfl
      clear hc
      simp only [Nat.add_zero] at c0 c1 c2 c3 c4 c5
      go_wp2
      clear c0 c1 c2 c3 c4 c5
      refine wp_region_done (BothC w wr r1 w1 x1 f1 n1 s1 r2 w2 x2 f2 n2 s2) (by kernel_rfl) (by kernel_rfl) (BothC.start HB.out) ?_
      refine wpLex_want (.pointer (some ⟨w.heap.size + 1, 0, none⟩)) rfl (comes_done ?_) ?_
      · intro d w' hm hC; go_simp; exact hC.same rfl rfl rfl rfl rfl
      conv => arg 9; simp only [put_lit, put_lit_none, List.set]
      refine wpLex_want (.bool r1) rfl (comes_done ?_) ?_
      · intro d w' hm hC; have e := cell_of_row _ _ 0 _ _ _ hC.h3; simp [hm.not_yet 31 (by kernel_rfl)] at e; go_simp; exact hC.same rfl rfl rfl rfl rfl
      conv => arg 9; simp only [put_lit, put_lit_none, List.set]
      refine wpLex_want (.bool r1) rfl (comes_done ?_) ?_
      · intro d w' hm hC; go_simp; exact hC.same rfl rfl rfl rfl rfl
      conv => arg 9; simp only [put_lit, put_lit_none, List.set]
      refine wpLex_guard (r1) (.pointer (some ⟨wr.heap.size, 0, none⟩)) (by cases r1 <;> rfl) (fun hg => comes_done ?_) (fun _ => passes_done (fun d w' _ h => h.same rfl rfl rfl rfl rfl)) ?_
      · intro d w' hm hC; subst hg; go_simp; exact hC.same rfl rfl rfl rfl rfl
      conv => arg 9; simp only [put_lit, put_lit_none, List.set]
      refine wpLex_guard (r1) (.bool r2) (by cases r1 <;> rfl) (fun hg => comes_done ?_) (fun _ => passes_done (fun d w' _ h => h.same rfl rfl rfl rfl rfl)) ?_
      · intro d w' hm hC; subst hg; have e := cell_of_row _ _ 0 _ _ _ hC.h5; simp at e; go_simp; exact hC.same rfl rfl rfl rfl rfl
      conv => arg 9; simp only [put_lit, put_lit_none, List.set]
      refine wpLex_want (.bool (r1 && r2)) rfl (comes_done ?_) ?_
      · intro d w' hm hC; cases r1 <;> (go_simp; exact hC.same rfl rfl rfl rfl rfl)
      conv => arg 9; simp only [put_lit, put_lit_none, List.set]
      refine wpLex_want (.pointer (some ⟨w.heap.size + 1, 1, none⟩)) rfl (comes_done ?_) ?_
      · intro d w' hm hC; go_simp; exact hC.same rfl rfl rfl rfl rfl
      conv => arg 9; simp only [put_lit, put_lit_none, List.set]
      refine wpLex_want (.bool w1) rfl (comes_done ?_) ?_
      · intro d w' hm hC; have e := cell_of_row _ _ 1 _ _ _ hC.h3; simp [hm.not_yet 33 (by kernel_rfl)] at e; go_simp; exact hC.same rfl rfl rfl rfl rfl
      conv => arg 9; simp only [put_lit, put_lit_none, List.set]
      refine wpLex_want (.bool w1) rfl (comes_done ?_) ?_
      · intro d w' hm hC; go_simp; exact hC.same rfl rfl rfl rfl rfl
      conv => arg 9; simp only [put_lit, put_lit_none, List.set]
      refine wpLex_guard (w1) (.pointer (some ⟨wr.heap.size, 1, none⟩)) (by cases w1 <;> rfl) (fun hg => comes_done ?_) (fun _ => passes_done (fun d w' _ h => h.same rfl rfl rfl rfl rfl)) ?_
      · intro d w' hm hC; subst hg; go_simp; exact hC.same rfl rfl rfl rfl rfl
      conv => arg 9; simp only [put_lit, put_lit_none, List.set]
      refine wpLex_guard (w1) (.bool w2) (by cases w1 <;> rfl) (fun hg => comes_done ?_) (fun _ => passes_done (fun d w' _ h => h.same rfl rfl rfl rfl rfl)) ?_
      · intro d w' hm hC; subst hg; have e := cell_of_row _ _ 1 _ _ _ hC.h5; simp at e; go_simp; exact hC.same rfl rfl rfl rfl rfl
      conv => arg 9; simp only [put_lit, put_lit_none, List.set]
      refine wpLex_want (.bool (w1 && w2)) rfl (comes_done ?_) ?_
      · intro d w' hm hC; cases w1 <;> (go_simp; exact hC.same rfl rfl rfl rfl rfl)
      conv => arg 9; simp only [put_lit, put_lit_none, List.set]
      refine wpLex_want (.pointer (some ⟨w.heap.size + 1, 2, none⟩)) rfl (comes_done ?_) ?_
      · intro d w' hm hC; go_simp; exact hC.same rfl rfl rfl rfl rfl
      conv => arg 9; simp only [put_lit, put_lit_none, List.set]
      refine wpLex_want (.bool x1) rfl (comes_done ?_) ?_
      · intro d w' hm hC; have e := cell_of_row _ _ 2 _ _ _ hC.h3; simp [hm.not_yet 35 (by kernel_rfl)] at e; go_simp; exact hC.same rfl rfl rfl rfl rfl
      conv => arg 9; simp only [put_lit, put_lit_none, List.set]
      refine wpLex_want (.bool x1) rfl (comes_done ?_) ?_
      · intro d w' hm hC; go_simp; exact hC.same rfl rfl rfl rfl rfl
      conv => arg 9; simp only [put_lit, put_lit_none, List.set]
      refine wpLex_guard (x1) (.pointer (some ⟨wr.heap.size, 2, none⟩)) (by cases x1 <;> rfl) (fun hg => comes_done ?_) (fun _ => passes_done (fun d w' _ h => h.same rfl rfl rfl rfl rfl)) ?_
      · intro d w' hm hC; subst hg; go_simp; exact hC.same rfl rfl rfl rfl rfl
      conv => arg 9; simp only [put_lit, put_lit_none, List.set]
      refine wpLex_guard (x1) (.bool x2) (by cases x1 <;> rfl) (fun hg => comes_done ?_) (fun _ => passes_done (fun d w' _ h => h.same rfl rfl rfl rfl rfl)) ?_
      · intro d w' hm hC; subst hg; have e := cell_of_row _ _ 2 _ _ _ hC.h5; simp at e; go_simp; exact hC.same rfl rfl rfl rfl rfl
      conv => arg 9; simp only [put_lit, put_lit_none, List.set]
      refine wpLex_want (.bool (x1 && x2)) rfl (comes_done ?_) ?_
      · intro d w' hm hC; cases x1 <;> (go_simp; exact hC.same rfl rfl rfl rfl rfl)
      conv => arg 9; simp only [put_lit, put_lit_none, List.set]
      refine wpLex_want (.pointer (some ⟨w.heap.size + 1, 3, none⟩)) rfl (comes_done ?_) ?_
      · intro d w' hm hC; go_simp; exact hC.same rfl rfl rfl rfl rfl
      conv => arg 9; simp only [put_lit, put_lit_none, List.set]
      refine wpLex_want (.bool f1) rfl (comes_done ?_) ?_
      · intro d w' hm hC; have e := cell_of_row _ _ 3 _ _ _ hC.h3; simp [hm.not_yet 37 (by kernel_rfl)] at e; go_simp; exact hC.same rfl rfl rfl rfl rfl
      conv => arg 9; simp only [put_lit, put_lit_none, List.set]
      refine wpLex_want (.bool f1) rfl (comes_done ?_) ?_
      · intro d w' hm hC; go_simp; exact hC.same rfl rfl rfl rfl rfl
      conv => arg 9; simp only [put_lit, put_lit_none, List.set]
      refine wpLex_guard (f1) (.pointer (some ⟨wr.heap.size, 3, none⟩)) (by cases f1 <;> rfl) (fun hg => comes_done ?_) (fun _ => passes_done (fun d w' _ h => h.same rfl rfl rfl rfl rfl)) ?_
      · intro d w' hm hC; subst hg; go_simp; exact hC.same rfl rfl rfl rfl rfl
      conv => arg 9; simp only [put_lit, put_lit_none, List.set]
      refine wpLex_guard (f1) (.bool f2) (by cases f1 <;> rfl) (fun hg => comes_done ?_) (fun _ => passes_done (fun d w' _ h => h.same rfl rfl rfl rfl rfl)) ?_
      · intro d w' hm hC; subst hg; have e := cell_of_row _ _ 3 _ _ _ hC.h5; simp at e; go_simp; exact hC.same rfl rfl rfl rfl rfl
      conv => arg 9; simp only [put_lit, put_lit_none, List.set]
      refine wpLex_want (.bool (f1 && f2)) rfl (comes_done ?_) ?_
      · intro d w' hm hC; cases f1 <;> (go_simp; exact hC.same rfl rfl rfl rfl rfl)
      conv => arg 9; simp only [put_lit, put_lit_none, List.set]
      refine wpLex_want (.pointer (some ⟨w.heap.size + 1, 4, none⟩)) rfl (comes_done ?_) ?_
      · intro d w' hm hC; go_simp; exact hC.same rfl rfl rfl rfl rfl
      conv => arg 9; simp only [put_lit, put_lit_none, List.set]
      refine wpLex_want (.bool n1) rfl (comes_done ?_) ?_
      · intro d w' hm hC; have e := cell_of_row _ _ 4 _ _ _ hC.h3; simp [hm.not_yet 39 (by kernel_rfl)] at e; go_simp; exact hC.same rfl rfl rfl rfl rfl
      conv => arg 9; simp only [put_lit, put_lit_none, List.set]
      refine wpLex_want (.bool n1) rfl (comes_done ?_) ?_
      · intro d w' hm hC; go_simp; exact hC.same rfl rfl rfl rfl rfl
      conv => arg 9; simp only [put_lit, put_lit_none, List.set]
      refine wpLex_guard (!n1) (.pointer (some ⟨wr.heap.size, 4, none⟩)) (by cases n1 <;> rfl) (fun hg => comes_done ?_) (fun _ => passes_done (fun d w' _ h => h.same rfl rfl rfl rfl rfl)) ?_
      · intro d w' hm hC; obtain rfl : n1 = false := (by simpa using hg); go_simp; exact hC.same rfl rfl rfl rfl rfl
      conv => arg 9; simp only [put_lit, put_lit_none, List.set]
      refine wpLex_guard (!n1) (.bool n2) (by cases n1 <;> rfl) (fun hg => comes_done ?_) (fun _ => passes_done (fun d w' _ h => h.same rfl rfl rfl rfl rfl)) ?_
      · intro d w' hm hC; obtain rfl : n1 = false := (by simpa using hg); have e := cell_of_row _ _ 4 _ _ _ hC.h5; simp at e; go_simp; exact hC.same rfl rfl rfl rfl rfl
      conv => arg 9; simp only [put_lit, put_lit_none, List.set]
      refine wpLex_want (.bool (n1 || n2)) rfl (comes_done ?_) ?_
      · intro d w' hm hC; cases n1 <;> (go_simp; exact hC.same rfl rfl rfl rfl rfl)
      conv => arg 9; simp only [put_lit, put_lit_none, List.set]
      refine wpLex_want (.pointer (some ⟨w.heap.size + 1, 0, none⟩)) rfl (comes_done ?_) ?_
      · intro d w' hm hC; go_simp; exact hC.same rfl rfl rfl rfl rfl
      conv => arg 9; simp only [put_lit, put_lit_none, List.set]
      refine wpLex_want undef rfl (comes_done ?_) ?_
      · intro d w' hm hC; have e := cell_of_row _ _ 0 _ _ _ hC.h3; have z := frozen_of_row _ _ 0 _ _ hC.h3; simp at e z; go_simp; exact hC.store0
      conv => arg 9; simp only [put_lit, put_lit_none, List.set]
      refine wpLex_want (.pointer (some ⟨w.heap.size + 1, 1, none⟩)) rfl (comes_done ?_) ?_
      · intro d w' hm hC; go_simp; exact hC.same rfl rfl rfl rfl rfl
      conv => arg 9; simp only [put_lit, put_lit_none, List.set]
      refine wpLex_want undef rfl (comes_done ?_) ?_
      · intro d w' hm hC; have e := cell_of_row _ _ 1 _ _ _ hC.h3; have z := frozen_of_row _ _ 1 _ _ hC.h3; simp at e z; go_simp; exact hC.store1
      conv => arg 9; simp only [put_lit, put_lit_none, List.set]
      refine wpLex_want (.pointer (some ⟨w.heap.size + 1, 2, none⟩)) rfl (comes_done ?_) ?_
      · intro d w' hm hC; go_simp; exact hC.same rfl rfl rfl rfl rfl
      conv => arg 9; simp only [put_lit, put_lit_none, List.set]
      refine wpLex_want undef rfl (comes_done ?_) ?_
      · intro d w' hm hC; have e := cell_of_row _ _ 2 _ _ _ hC.h3; have z := frozen_of_row _ _ 2 _ _ hC.h3; simp at e z; go_simp; exact hC.store2
      conv => arg 9; simp only [put_lit, put_lit_none, List.set]
      refine wpLex_want (.pointer (some ⟨w.heap.size + 1, 3, none⟩)) rfl (comes_done ?_) ?_
      · intro d w' hm hC; go_simp; exact hC.same rfl rfl rfl rfl rfl
      conv => arg 9; simp only [put_lit, put_lit_none, List.set]
      refine wpLex_want undef rfl (comes_done ?_) ?_
      · intro d w' hm hC; have e := cell_of_row _ _ 3 _ _ _ hC.h3; have z := frozen_of_row _ _ 3 _ _ hC.h3; simp at e z; go_simp; exact hC.store3
      conv => arg 9; simp only [put_lit, put_lit_none, List.set]
      refine wpLex_want (.pointer (some ⟨w.heap.size + 1, 4, none⟩)) rfl (comes_done ?_) ?_
      · intro d w' hm hC; go_simp; exact hC.same rfl rfl rfl rfl rfl
      conv => arg 9; simp only [put_lit, put_lit_none, List.set]
      refine wpLex_want undef rfl (comes_done ?_) ?_
      · intro d w' hm hC; have e := cell_of_row _ _ 4 _ _ _ hC.h3; have z := frozen_of_row _ _ 4 _ _ hC.h3; simp at e z; go_simp; exact hC.store4
      conv => arg 9; simp only [put_lit, put_lit_none, List.set]
      refine wpLex_nil ?_
      intro w' d hd hC
      have HE := Lib.hid (hC.fin (hd 31 (by decide)) (hd 33 (by decide)) (hd 35 (by decide)) (hd 37 (by decide)) (hd 39 (by decide)))
      clear hC hd HB
      go_wp2
      go_roundw
      case rel => exact ⟨k + 1, by omega, by go_num, by rw [HK.out]; exact HE.out⟩
      case measure => simp [intOf]; omega
    · obtain rfl : k = l.length := by omega
      have hB2 := hat.h2
      have hB3 := hat.h3
      have HB := Lib.hid hat
      rw [List.take_length] at hB3
      clear hat HA hlt
      generalize ho : both l = o at *
      have HO := Lib.hid ho
      clear ho
      obtain ⟨r1, w1, x1, f1, n1, s1⟩ := o
      have e0 := cell_of_row _ _ 0 _ _ _ hB3
      have e1 := cell_of_row _ _ 1 _ _ _ hB3
      have e2 := cell_of_row _ _ 2 _ _ _ hB3
      have e3 := cell_of_row _ _ 3 _ _ _ hB3
      have e4 := cell_of_row _ _ 4 _ _ _ hB3
      have e5 := cell_of_row _ _ 5 _ _ _ hB3
      have d0 := cell_of_row _ _ 0 _ _ _ hB2
      have d1 := cell_of_row _ _ 1 _ _ _ hB2
      have d2 := cell_of_row _ _ 2 _ _ _ hB2
      have d3 := cell_of_row _ _ 3 _ _ _ hB2
      have d4 := cell_of_row _ _ 4 _ _ _ hB2
      have d5 := cell_of_row _ _ 5 _ _ _ hB2
      have z := fun j => frozen_of_row _ _ j _ _ hB2
      simp [Attr.cells] at e0 e1 e2 e3 e4 e5 d0 d1 d2 d3 d4 d5
      have HB3 := Lib.hid hB3
      have HB2 := Lib.hid hB2
      clear hB2 hB3
      go_wp2
      refine bodyPost_ret (v := .agg #[.bool r1, .bool w1, .bool x1, .bool f1, .bool n1, .int .i64 s1]) (by simp [results, Try.results53, go_sem, d0, d1, d2, d3, d4, d5]) rfl ⟨by rw [HO.out]; rfl, ?_⟩
      exact (((((HB.out.below.setCell (by simp) _).setCell (by simp) _).setCell (by simp) _).setCell (by simp) _).setCell (by simp) _).setCell (by simp) _

end Go.Proofs.Ytddbndmbcdeggaa
