/-
  'PermLess' returns true, and of what was there nothing has turned. Conditions: the asks read as such.
-/
import Derived.Test.YtjbjepjbnklccaaPermB
import Derived.Deep.Cut
namespace Go.Proofs.Ytjbjepjbnklccaa
open Go.RowKit

theorem both_le : ∀ (l : List Attr) (a : Attr), a ∈ l → ∀ o : Attr, ((l.foldl both1 o).r = true → a.r = true) ∧ ((l.foldl both1 o).w = true → a.w = true) ∧ ((l.foldl both1 o).x = true → a.x = true) ∧ ((l.foldl both1 o).af = true → a.af = true) ∧ (a.ng = true → (l.foldl both1 o).ng = true)
  | [], a, h, _ => by cases h
  | b :: l, a, h, o => by
    have keep : ∀ (l : List Attr) (o : Attr), ((l.foldl both1 o).r = true → o.r = true) ∧ ((l.foldl both1 o).w = true → o.w = true) ∧ ((l.foldl both1 o).x = true → o.x = true) ∧ ((l.foldl both1 o).af = true → o.af = true) ∧ (o.ng = true → (l.foldl both1 o).ng = true) := by
      intro l
      induction l with
      | nil => intro o; exact ⟨id, id, id, id, id⟩
      | cons c l ih =>
        intro o
        obtain ⟨h1, h2, h3, h4, h5⟩ := ih (both1 o c)
        refine ⟨fun h => ?_, fun h => ?_, fun h => ?_, fun h => ?_, fun h => h5 ?_⟩
        · have := h1 h; simp [both1] at this; exact this.1
        · have := h2 h; simp [both1] at this; exact this.1
        · have := h3 h; simp [both1] at this; exact this.1
        · have := h4 h; simp [both1] at this; exact this.1
        · simp [both1, h]
    rcases List.mem_cons.1 h with rfl | h
    · obtain ⟨h1, h2, h3, h4, h5⟩ := keep l (both1 o a)
      refine ⟨fun h => ?_, fun h => ?_, fun h => ?_, fun h => ?_, fun h => h5 ?_⟩
      · have := h1 h; simp [both1] at this; exact this.2
      · have := h2 h; simp [both1] at this; exact this.2
      · have := h3 h; simp [both1] at this; exact this.2
      · have := h4 h; simp [both1] at this; exact this.2
      · simp [both1, h]
    · exact both_le l a h (both1 o b)

theorem attr_info : (Try.prog.info? attrT).map (fun i => (i.zero, i.size, i.bytes)) = some (some (.agg #[.bool false, .bool false, .bool false, .bool false, .bool false, .int .i64 0]), 6, 16) := by kernel_rfl
theorem attr_one {l : List Attr} (u : Value) (h : u ∈ l.flatMap Attr.cells) : u.oneCell' = true := by
  obtain ⟨a, _, ha⟩ := List.mem_flatMap.1 h
  simp only [Attr.cells, List.mem_cons, List.not_mem_nil, or_false] at ha
  rcases ha with rfl | rfl | rfl | rfl | rfl | rfl <;> rfl

/-- An append onto a row that is the newest block leaves all older ones. -/
theorem below_grown {w w' : World} {o : Obj} {n c : Nat} {v' : Value} (h : (w.alloc o).grownBy w' (Value.slice (some ⟨w.heap.size, 0, none⟩) n c).ownBlock) (_h2 : v'.ownBlock = (Value.slice (some ⟨w.heap.size, 0, none⟩) n c).ownBlock ∨ v'.ownBlock = some (w.alloc o).heap.size) : Below w.heap.size w w' :=
  ((Below.refl _ _).alloc (Nat.le_refl _) o).grown h (by simp) (fun k hk => by simp [Value.ownBlock] at hk; omega)

theorem both_len {l : List Attr} {r w x f n : Bool} {s : Int} (h : both l = ⟨r, w, x, f, n, s⟩) (A : Option Addr) (c : Nat) (W : World) (m : Nat) (hm : m = l.length) (hn : l.length ≤ 1000) (hA : At W A 6 Attr.cells l) :
    Calls Try.prog 6 #[.slice A m c] W fun e w' => e = .returned (.agg #[.bool r, .bool w, .bool x, .bool f, .bool n, .int .i64 s]) ∧ Below W.heap.size W w' := by
  subst hm
  exact both_lit h A c W hn hA

/-- One that may nothing, and the row behind it. -/
def none1 : Attr := ⟨false, false, false, false, false, 0⟩
theorem both_none (l : List Attr) : ∃ ng, both (none1 :: l) = ⟨false, false, false, false, ng, 0⟩ := by
  have h : ∀ (l : List Attr) (o : Attr), o.r = false ∧ o.w = false ∧ o.x = false ∧ o.af = false ∧ o.soft = 0 → (l.foldl both1 o).r = false ∧ (l.foldl both1 o).w = false ∧ (l.foldl both1 o).x = false ∧ (l.foldl both1 o).af = false ∧ (l.foldl both1 o).soft = 0 := by
    intro l
    induction l with
    | nil => intro o h; exact h
    | cons a l ih => intro o h; exact ih _ ⟨by simp [both1, h.1], by simp [both1, h.2.1], by simp [both1, h.2.2.1], by simp [both1, h.2.2.2.1], h.2.2.2.2⟩
  obtain ⟨h1, h2, h3, h4, h5⟩ := h l (both1 ⟨true, true, true, true, false, 0⟩ none1) ⟨rfl, rfl, rfl, rfl, rfl⟩
  refine ⟨(both (none1 :: l)).ng, ?_⟩
  unfold both
  simp only [List.foldl_cons]
  generalize l.foldl both1 (both1 ⟨true, true, true, true, false, 0⟩ none1) = o at *
  cases o
  simp_all

theorem at_of_own1 {A : Option Addr} {c B : Nat} {w : World} {l : List Attr} (h : w.ownsRow B attrT 6 (.slice A (1 + l.length) c) (1 + l.length) ([.bool false, .bool false, .bool false, .bool false, .bool false, .int .i64 0] ++ l.flatMap Attr.cells)) : At w A 6 Attr.cells (none1 :: l) := by
  have e : (none1 :: l).length = 1 + l.length := by simp; omega
  refine At.of_own (base := B) (e := attrT) (c := c) ?_ attr_len
  rw [e]
  exact h

set_option maxRecDepth 100000 in
set_option maxHeartbeats 1000000 in
theorem permLess_walk (A : Option Addr) (c : Nat) (asks : List Ask) (w : World) (hn : asks.length ≤ maxLen) (hA : At w A 5 Ask.cells asks) (hq : ∀ q ∈ asks, AskAt w q) :
    Calls Try.prog 4 #[.slice A asks.length c] w fun e w' => e = .returned (.bool true) ∧ Below w.heap.size w w' := by
  unfold maxLen at hn
  obtain ⟨i0, hi0, hz0, hz1, hz2⟩ := info_parts attr_info
  have HA := Lib.hid hA
  have HQ := Lib.hid hq
  clear hA hq
  go_enter Try.func4, Try.ntmps4
  go_wp2
  go_loopw [3] (fun i wr => ∃ k : Nat, k ≤ asks.length ∧ i = .int .i64 k ∧ Below w.heap.size w wr) (fun i _ => asks.length - (intOf i).toNat)
  case atStart => exact ⟨0, Nat.zero_le _, rfl, Below.refl _ _⟩
  case round =>
    obtain ⟨k, hk, rfl, hb⟩ := hrel
    have HB := Lib.hid hb
    clear hb
    by_cases hlt : k < asks.length
    · by_cases h15 : k < 15
      · obtain ⟨b, off, rfl, hbl, hc⟩ := HA.out (by omega)
        obtain ⟨hl, hat⟩ := HQ.out asks[k] (List.getElem_mem hlt)
        have HL := Lib.hid (show w.cell? ⟨b, off + k * 5, none⟩ = some (.slice asks[k].addr asks[k].l.length asks[k].cap) from hc k hlt 0 _ rfl)
        have HAT := Lib.hid hat
        clear hc hat
        generalize asks[k] = q at *
        obtain ⟨qad, qc, l, qa, qs, qe, qp⟩ := q
        dsimp only at *
        have hL : wr.cell? ⟨b, off + k * 5, none⟩ = some (.slice qad l.length qc) := by rw [HB.out.cell hbl]; exact HL.out
        by_cases h300 : l.length ≤ 300
        · rcases hbo : both l with ⟨r1, w1, x1, f1, n1, s1⟩
          have HLE := Lib.hid (fun a ha => by have := both_le l a ha ⟨true, true, true, true, false, 0⟩; rw [show l.foldl both1 ⟨true, true, true, true, false, 0⟩ = _ from hbo] at this; exact this :
            ∀ a ∈ l, (r1 = true → a.r = true) ∧ (w1 = true → a.w = true) ∧ (x1 = true → a.x = true) ∧ (f1 = true → a.af = true) ∧ (a.ng = true → n1 = true))
          have HBC := Lib.hid (fun W h => both_lit hbo qad qc W (by omega) h)
          clear hbo hl
          go_wp2_with (go_at_call 6; refine (HBC.out _ (HAT.out.below HB.out)).mono ?_; rintro e v1 ⟨rfl, hb1⟩; have HB1 := Lib.hid (below_call HB.out hb1 HB.out.size); clear hb1)
          go_loopw [5] (fun i wr => ∃ k : Nat, k ≤ l.length ∧ i = .int .i64 k ∧ Below w.heap.size w wr ∧ v1.heap.size < wr.heap.size ∧ wr.heap[v1.heap.size]? = some (.cells #[.bool r1, .bool w1, .bool x1, .bool f1, .bool n1, .int .i64 s1] attrT (0, 0))) (fun i _ => l.length - (intOf i).toNat)
          case atStart =>
            exact ⟨0, Nat.zero_le _, rfl, HB1.out.alloc HB1.out.size _, by simp, heap_new _ _⟩
          case round =>
            obtain ⟨k2, hk2, rfl, hb2, hs2, hx2⟩ := hrel
            have HB2 := Lib.hid hb2
            have HX2 := Lib.hid hx2
            have hL2 : wr.cell? ⟨b, off + k * 5, none⟩ = some (.slice qad l.length qc) := by rw [HB2.out.cell hbl]; exact HL.out
            clear hb2 hx2
            by_cases hlt2 : k2 < l.length
            · obtain ⟨b2, off2, rfl, hbl2, hc2⟩ := HAT.out (by omega)
              obtain ⟨gr, gw, gx, gf, gn⟩ := HLE.out l[k2] (List.getElem_mem hlt2)
              have hc3 : ∀ j u, (l[k2].cells)[j]? = some u → wr.cell? ⟨b2, off2 + k2 * 6 + j, none⟩ = some u := fun j u h => by
                rw [HB2.out.cell hbl2]; exact hc2 k2 hlt2 j u h
              clear hc2 HLE
              generalize l[k2] = a at *
              obtain ⟨r2, w2, x2, f2, n2, s2⟩ := a
              have c0 := hc3 0 _ rfl
              have c1 := hc3 1 _ rfl
              have c2 := hc3 2 _ rfl
              have c3 := hc3 3 _ rfl
              have c4 := hc3 4 _ rfl
              have c5 := hc3 5 _ rfl
              clear hc3
              simp only [Nat.add_zero] at c0 c1 c2 c3 c4 c5
              have HG := Lib.hid (And.intro gr (And.intro gw (And.intro gx (And.intro gf gn))))
              clear gr gw gx gf gn
              have e0 := cell_of_row _ _ 0 _ _ _ HX2.out
              have e1 := cell_of_row _ _ 1 _ _ _ HX2.out
              have e2 := cell_of_row _ _ 2 _ _ _ HX2.out
              have e3 := cell_of_row _ _ 3 _ _ _ HX2.out
              have e4 := cell_of_row _ _ 4 _ _ _ HX2.out
              simp at e0 e1 e2 e3 e4
              go_upto_region 11 with (fail)
              obtain ⟨gr, gw, gx, gf, gn⟩ := HG.out
              clear c0 c1 c2 c3 c4 c5
              refine wp_region_plain (fun w' => w' = _) (by kernel_rfl) rfl ?_
              refine wpLex_want (.pointer (some ⟨v1.heap.size, 0, none⟩)) rfl (comes_plain ?_) ?_
              · intro w' hC; subst hC; go_simp
              conv => arg 9; simp only [put_lit, put_lit_none, List.set]
              refine wpLex_want (.bool r1) rfl (comes_plain ?_) ?_
              · intro w' hC; subst hC; go_simp
              conv => arg 9; simp only [put_lit, put_lit_none, List.set]
              refine wpLex_want (.bool r1) rfl (comes_plain ?_) ?_
              · intro w' hC; subst hC; go_simp
              conv => arg 9; simp only [put_lit, put_lit_none, List.set]
              refine wpLex_guard r1 (.pointer (some ⟨wr.heap.size, 0, none⟩)) (by cases r1 <;> rfl) (fun hg => comes_plain ?_) (fun _ => passes_plain) ?_
              · intro w' hC; subst hC; subst hg; go_simp
              conv => arg 9; simp only [put_lit, put_lit_none, List.set]
              refine wpLex_guard r1 (.bool r2) (by cases r1 <;> rfl) (fun hg => comes_plain ?_) (fun _ => passes_plain) ?_
              · intro w' hC; subst hC; subst hg; go_simp
              conv => arg 9; simp only [put_lit, put_lit_none, List.set]
              refine wpLex_guard r1 (.bool (!r2)) (by cases r1 <;> rfl) (fun hg => comes_plain ?_) (fun _ => passes_plain) ?_
              · intro w' hC; subst hC; subst hg; go_simp
              conv => arg 9; simp only [put_lit, put_lit_none, List.set]
              refine wpLex_want (.bool false) rfl (comes_plain ?_) ?_
              · intro w' hC; subst hC; cases r1; · go_simp
                · have hx := gr rfl; subst hx; go_simp
              conv => arg 9; simp only [put_lit, put_lit_none, List.set]
              refine wpLex_want (.bool false) rfl (comes_plain ?_) ?_
              · intro w' hC; subst hC; go_simp
              conv => arg 9; simp only [put_lit, put_lit_none, List.set]
              refine wpLex_want (.pointer (some ⟨v1.heap.size, 1, none⟩)) rfl (comes_plain ?_) ?_
              · intro w' hC; subst hC; go_simp
              conv => arg 9; simp only [put_lit, put_lit_none, List.set]
              refine wpLex_want (.bool w1) rfl (comes_plain ?_) ?_
              · intro w' hC; subst hC; go_simp
              conv => arg 9; simp only [put_lit, put_lit_none, List.set]
              refine wpLex_want (.bool w1) rfl (comes_plain ?_) ?_
              · intro w' hC; subst hC; go_simp
              conv => arg 9; simp only [put_lit, put_lit_none, List.set]
              refine wpLex_guard w1 (.pointer (some ⟨wr.heap.size, 1, none⟩)) (by cases w1 <;> rfl) (fun hg => comes_plain ?_) (fun _ => passes_plain) ?_
              · intro w' hC; subst hC; subst hg; go_simp
              conv => arg 9; simp only [put_lit, put_lit_none, List.set]
              refine wpLex_guard w1 (.bool w2) (by cases w1 <;> rfl) (fun hg => comes_plain ?_) (fun _ => passes_plain) ?_
              · intro w' hC; subst hC; subst hg; go_simp
              conv => arg 9; simp only [put_lit, put_lit_none, List.set]
              refine wpLex_guard w1 (.bool (!w2)) (by cases w1 <;> rfl) (fun hg => comes_plain ?_) (fun _ => passes_plain) ?_
              · intro w' hC; subst hC; subst hg; go_simp
              conv => arg 9; simp only [put_lit, put_lit_none, List.set]
              refine wpLex_want (.bool false) rfl (comes_plain ?_) ?_
              · intro w' hC; subst hC; cases w1; · go_simp
                · have hx := gw rfl; subst hx; go_simp
              conv => arg 9; simp only [put_lit, put_lit_none, List.set]
              refine wpLex_want (.bool false) rfl (comes_plain ?_) ?_
              · intro w' hC; subst hC; go_simp
              conv => arg 9; simp only [put_lit, put_lit_none, List.set]
              refine wpLex_want (.bool false) rfl (comes_plain ?_) ?_
              · intro w' hC; subst hC; go_simp
              conv => arg 9; simp only [put_lit, put_lit_none, List.set]
              refine wpLex_want (.pointer (some ⟨v1.heap.size, 2, none⟩)) rfl (comes_plain ?_) ?_
              · intro w' hC; subst hC; go_simp
              conv => arg 9; simp only [put_lit, put_lit_none, List.set]
              refine wpLex_want (.bool x1) rfl (comes_plain ?_) ?_
              · intro w' hC; subst hC; go_simp
              conv => arg 9; simp only [put_lit, put_lit_none, List.set]
              refine wpLex_want (.bool x1) rfl (comes_plain ?_) ?_
              · intro w' hC; subst hC; go_simp
              conv => arg 9; simp only [put_lit, put_lit_none, List.set]
              refine wpLex_guard x1 (.pointer (some ⟨wr.heap.size, 2, none⟩)) (by cases x1 <;> rfl) (fun hg => comes_plain ?_) (fun _ => passes_plain) ?_
              · intro w' hC; subst hC; subst hg; go_simp
              conv => arg 9; simp only [put_lit, put_lit_none, List.set]
              refine wpLex_guard x1 (.bool x2) (by cases x1 <;> rfl) (fun hg => comes_plain ?_) (fun _ => passes_plain) ?_
              · intro w' hC; subst hC; subst hg; go_simp
              conv => arg 9; simp only [put_lit, put_lit_none, List.set]
              refine wpLex_guard x1 (.bool (!x2)) (by cases x1 <;> rfl) (fun hg => comes_plain ?_) (fun _ => passes_plain) ?_
              · intro w' hC; subst hC; subst hg; go_simp
              conv => arg 9; simp only [put_lit, put_lit_none, List.set]
              refine wpLex_want (.bool false) rfl (comes_plain ?_) ?_
              · intro w' hC; subst hC; cases x1; · go_simp
                · have hx := gx rfl; subst hx; go_simp
              conv => arg 9; simp only [put_lit, put_lit_none, List.set]
              refine wpLex_want (.bool false) rfl (comes_plain ?_) ?_
              · intro w' hC; subst hC; go_simp
              conv => arg 9; simp only [put_lit, put_lit_none, List.set]
              refine wpLex_want (.bool false) rfl (comes_plain ?_) ?_
              · intro w' hC; subst hC; go_simp
              conv => arg 9; simp only [put_lit, put_lit_none, List.set]
              refine wpLex_want (.pointer (some ⟨v1.heap.size, 3, none⟩)) rfl (comes_plain ?_) ?_
              · intro w' hC; subst hC; go_simp
              conv => arg 9; simp only [put_lit, put_lit_none, List.set]
              refine wpLex_want (.bool f1) rfl (comes_plain ?_) ?_
              · intro w' hC; subst hC; go_simp
              conv => arg 9; simp only [put_lit, put_lit_none, List.set]
              refine wpLex_want (.bool f1) rfl (comes_plain ?_) ?_
              · intro w' hC; subst hC; go_simp
              conv => arg 9; simp only [put_lit, put_lit_none, List.set]
              refine wpLex_guard f1 (.pointer (some ⟨wr.heap.size, 3, none⟩)) (by cases f1 <;> rfl) (fun hg => comes_plain ?_) (fun _ => passes_plain) ?_
              · intro w' hC; subst hC; subst hg; go_simp
              conv => arg 9; simp only [put_lit, put_lit_none, List.set]
              refine wpLex_guard f1 (.bool f2) (by cases f1 <;> rfl) (fun hg => comes_plain ?_) (fun _ => passes_plain) ?_
              · intro w' hC; subst hC; subst hg; go_simp
              conv => arg 9; simp only [put_lit, put_lit_none, List.set]
              refine wpLex_guard f1 (.bool (!f2)) (by cases f1 <;> rfl) (fun hg => comes_plain ?_) (fun _ => passes_plain) ?_
              · intro w' hC; subst hC; subst hg; go_simp
              conv => arg 9; simp only [put_lit, put_lit_none, List.set]
              refine wpLex_want (.bool false) rfl (comes_plain ?_) ?_
              · intro w' hC; subst hC; cases f1; · go_simp
                · have hx := gf rfl; subst hx; go_simp
              conv => arg 9; simp only [put_lit, put_lit_none, List.set]
              refine wpLex_want (.bool false) rfl (comes_plain ?_) ?_
              · intro w' hC; subst hC; go_simp
              conv => arg 9; simp only [put_lit, put_lit_none, List.set]
              refine wpLex_want (.bool false) rfl (comes_plain ?_) ?_
              · intro w' hC; subst hC; go_simp
              conv => arg 9; simp only [put_lit, put_lit_none, List.set]
              refine wpLex_want (.pointer (some ⟨wr.heap.size, 4, none⟩)) rfl (comes_plain ?_) ?_
              · intro w' hC; subst hC; go_simp
              conv => arg 9; simp only [put_lit, put_lit_none, List.set]
              refine wpLex_want (.bool n2) rfl (comes_plain ?_) ?_
              · intro w' hC; subst hC; go_simp
              conv => arg 9; simp only [put_lit, put_lit_none, List.set]
              refine wpLex_want (.bool n2) rfl (comes_plain ?_) ?_
              · intro w' hC; subst hC; go_simp
              conv => arg 9; simp only [put_lit, put_lit_none, List.set]
              refine wpLex_guard n2 (.pointer (some ⟨v1.heap.size, 4, none⟩)) (by cases n2 <;> rfl) (fun hg => comes_plain ?_) (fun _ => passes_plain) ?_
              · intro w' hC; subst hC; subst hg; go_simp
              conv => arg 9; simp only [put_lit, put_lit_none, List.set]
              refine wpLex_guard n2 (.bool n1) (by cases n2 <;> rfl) (fun hg => comes_plain ?_) (fun _ => passes_plain) ?_
              · intro w' hC; subst hC; subst hg; go_simp
              conv => arg 9; simp only [put_lit, put_lit_none, List.set]
              refine wpLex_guard n2 (.bool (!n1)) (by cases n2 <;> rfl) (fun hg => comes_plain ?_) (fun _ => passes_plain) ?_
              · intro w' hC; subst hC; subst hg; go_simp
              conv => arg 9; simp only [put_lit, put_lit_none, List.set]
              refine wpLex_want (.bool false) rfl (comes_plain ?_) ?_
              · intro w' hC; subst hC; cases n2; · go_simp
                · have hx := gn rfl; subst hx; go_simp
              conv => arg 9; simp only [put_lit, put_lit_none, List.set]
              refine wpLex_want (.bool false) rfl (comes_plain ?_) ?_
              · intro w' hC; subst hC; go_simp
              conv => arg 9; simp only [put_lit, put_lit_none, List.set]
              refine wpLex_nil ?_
              intro w' hC
              subst hC
              clear gr gw gx gf gn e0 e1 e2 e3 e4
              go_wp2
              go_roundw
              case rel => exact ⟨k2 + 1, by omega, by go_num, HB2.out.alloc HB2.out.size _, by simp; omega, (heap_old _ _ hs2).trans HX2.out⟩
              case measure => simp [intOf]; omega
            · clear HLE HX2 hs2
              have hown := World.ownsRow_lit (base := wr.heap.size) (size := 6) (e := attrT) wr #[.bool false, .bool false, .bool false, .bool false, .bool false, .int .i64 0] 1 (Nat.le_refl _) (by decide) rfl
              have HOWN := Lib.hid hown
              have hbw : b < wr.heap.size := by have := HB2.out.size; omega
              clear hown
              obtain ⟨ng, hng⟩ := both_none l
              have HBN := Lib.hid (fun (A : Option Addr) (c : Nat) (W : World) (n : Nat) (hn : n = 1 + l.length) h => both_len hng A c W n (by simp only [List.length_cons]; omega) (by simp only [List.length_cons]; omega) h)
              clear hng
              go_wp2_with (first
                | (at_builtin
                   refine wpList_append_any _ rfl (.tmp 93) (.tmp 98) _ rfl wr.heap.size attrT i0 _ 6 16 Try.underlying23 hi0 hz0 hz1 hz2 rfl (by omega) _ 1 _ rfl HOWN.out (wr.alloc (.cells #[.bool false, .bool false, .bool false, .bool false, .bool false, .int .i64 0] attrT)).heap.size qad l.length qc (l.flatMap Attr.cells) rfl
                     (((HAT.out.below HB2.out).below ((Below.refl _ _).alloc (Nat.le_refl _) _)).reads attr_len) (by intro u hu; exact attr_one _ hu) (by simp only [maxLen]; omega) (by omega) (by simp) ?_
                   intro v2 w2 hown2 hg2 hat2
                   obtain ⟨g, cap, rfl, _, hgl⟩ := hown2.form (by omega)
                   have HAT2 := Lib.hid (at_of_own1 hown2)
                   have HG2 := Lib.hid (below_grown hg2 hat2)
                   clear hown2 hg2 hat2)
                | (go_at_call 6; refine (HBN.out _ _ _ _ (by rfl) HAT2.out).mono ?_; rintro e v3 ⟨rfl, hb3⟩; have HB3 := Lib.hid hb3; clear hb3))
              go_roundw
              case rel => exact ⟨k + 1, by omega, by go_num, below_call HB2.out (((HG2.out.trans (HB3.out.mono (by have := HG2.out.size; omega)))).alloc (by have := HG2.out.size; have := HB3.out.size; omega) _) HB2.out.size⟩
              case measure => simp [intOf]; omega
        · unfold maxLen at hl
          go_wp2
          go_ret
          exact ⟨rfl, HB.out⟩
      · go_wp2_with (go_at_call 8; refine (wakes_any _).mono ?_; rintro e w1 ⟨rfl, hb1⟩; have HB1 := Lib.hid hb1; clear hb1)
        go_ret
        exact ⟨rfl, below_call HB.out HB1.out HB.out.size⟩
    · go_wp2_with (go_at_call 8; refine (wakes_any _).mono ?_; rintro e w1 ⟨rfl, hb1⟩; have HB1 := Lib.hid hb1; clear hb1)
      go_ret
      exact ⟨rfl, below_call HB.out HB1.out HB.out.size⟩

end Go.Proofs.Ytjbjepjbnklccaa
