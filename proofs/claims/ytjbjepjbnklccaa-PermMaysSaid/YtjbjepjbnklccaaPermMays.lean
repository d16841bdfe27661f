/-
  'PermMays' returns true, and of what was there nothing has turned. Conditions: the asks read as such.
-/
import Derived.Test.YtjbjepjbnklccaaPermB
import Derived.Test.YtjbjepjbnklccaaBox
import Derived.Deep.Cut
namespace Go.Proofs.Ytjbjepjbnklccaa
open Go.RowKit

def faultT : TypeId := 35

theorem fault_lit (acc stage level page : Int) (f m : Bool) : ∃ k st lv wk pg, (if accOk acc then flagOf f m stage level page else faultCells 0 0 0 false 0) = faultCells k st lv wk pg := by
  unfold flagOf
  split
  · split
    · exact ⟨_, _, _, _, _, rfl⟩
    · exact ⟨_, _, _, _, _, rfl⟩
  · exact ⟨_, _, _, _, _, rfl⟩

theorem flag_lit {r w x f n : Bool} {s acc stage level page : Int} {k st lv pg : Int} {wk g : Bool} (hg : accOk acc = g) (h : (if g then flagOf f (mayOf r w x acc) stage level page else faultCells 0 0 0 false 0) = faultCells k st lv wk pg) (W : World) :
    Calls Try.prog 10 #[.agg #[.bool r, .bool w, .bool x, .bool f, .bool n, .int .i64 s], .int .i64 acc, .int .i64 stage, .int .i64 level, .int .i64 page] W fun e w' =>
      e = .returned (.tuple #[.agg #[.int .i64 k, .int .i64 st, .int .i64 lv, .bool wk, .int .i64 pg], .int .i64 (formIf g)]) ∧ Below W.heap.size W w' := by
  refine (flag_any r w x f n s acc stage level page W).mono ?_
  rintro e w' ⟨rfl, hb⟩
  rw [hg, h]
  exact ⟨rfl, hb⟩

theorem refFlag_lit {r w x f n : Bool} {s acc stage level page : Int} {k st lv pg : Int} {wk : Bool} (h : flagOf f (mayOf r w x acc) stage level page = faultCells k st lv wk pg) (W : World) :
    Calls Try.prog 13 #[.agg #[.bool r, .bool w, .bool x, .bool f, .bool n, .int .i64 s], .int .i64 acc, .int .i64 stage, .int .i64 level, .int .i64 page] W fun e w' =>
      e = .returned (.agg #[.int .i64 k, .int .i64 st, .int .i64 lv, .bool wk, .int .i64 pg]) ∧ Below W.heap.size W w' := by
  refine (refFlag_any r w x f n s acc stage level page W).mono ?_
  rintro e w' ⟨rfl, hb⟩
  rw [h]
  exact ⟨rfl, hb⟩

theorem may_lit {r w x f n : Bool} {s acc : Int} {g m : Bool} (hg : accOk acc = g) (hm : mayOf r w x acc = m) (W : World) :
    Calls Try.prog 9 #[.agg #[.bool r, .bool w, .bool x, .bool f, .bool n, .int .i64 s], .int .i64 acc] W fun e w' =>
      e = .returned (.tuple #[.bool m, .int .i64 (formIf g)]) ∧ Below W.heap.size W w' := by
  rw [← hg, ← hm]
  exact may_any r w x f n s acc W

theorem acc_lit {acc : Int} {g : Bool} (hg : accOk acc = g) (W : World) : Calls Try.prog 11 #[.int .i64 acc] W fun e w' => e = .returned (.bool g) ∧ w' = W := by
  rw [← hg]
  exact acc_any acc W
theorem mayOf_no {r w x : Bool} {acc : Int} (h : accOk acc = false) : mayOf r w x acc = false := by
  rcases acc_cases acc with rfl | rfl | rfl | ⟨_, h0, h1, h2⟩
  · simp [accOk] at h
  · simp [accOk] at h
  · simp [accOk] at h
  · simp [mayOf, h0, h1, h2]

theorem refMay_lit {r w x f n : Bool} {s acc : Int} {m : Bool} (hm : mayOf r w x acc = m) (W : World) :
    Calls Try.prog 12 #[.agg #[.bool r, .bool w, .bool x, .bool f, .bool n, .int .i64 s], .int .i64 acc] W fun e w' =>
      e = .returned (.bool m) ∧ Below W.heap.size W w' := by
  rw [← hm]
  exact refMay_any r w x f n s acc W

theorem ask_facts {w : World} {g b off : Nat} {A : Option Addr} {n c : Nat} {i0 i1 i2 i3 : Int} {T : TypeId} {r x y f z : Bool} {s : Int} (h : w.heap[g]? = some (.cells #[.slice A n c, .int .i64 i0, .int .i64 i1, .int .i64 i2, .int .i64 i3] T (0, 0)))
    (hc : ∀ j u, (Attr.cells ⟨r, x, y, f, z, s⟩)[j]? = some u → w.cell? ⟨b, off + j, none⟩ = some u) :
    w.cell? ⟨g, 0, none⟩ = some (.slice A n c) ∧ w.cell? ⟨g, 2, none⟩ = some (.int .i64 i1) ∧ w.cell? ⟨g, 3, none⟩ = some (.int .i64 i2) ∧ w.cell? ⟨g, 4, none⟩ = some (.int .i64 i3) ∧
    w.cell? ⟨b, off, none⟩ = some (.bool r) ∧ w.cell? ⟨b, off + 1, none⟩ = some (.bool x) ∧ w.cell? ⟨b, off + 2, none⟩ = some (.bool y) ∧ w.cell? ⟨b, off + 3, none⟩ = some (.bool f) ∧ w.cell? ⟨b, off + 4, none⟩ = some (.bool z) ∧ w.cell? ⟨b, off + 5, none⟩ = some (.int .i64 s) :=
  ⟨cell_of_row _ _ 0 _ _ _ h, cell_of_row _ _ 2 _ _ _ h, cell_of_row _ _ 3 _ _ _ h, cell_of_row _ _ 4 _ _ _ h, hc 0 _ rfl, hc 1 _ rfl, hc 2 _ rfl, hc 3 _ rfl, hc 4 _ rfl, hc 5 _ rfl⟩

set_option maxRecDepth 100000 in
set_option maxHeartbeats 2000000 in
theorem permMays_walk (A : Option Addr) (c : Nat) (asks : List Ask) (w : World) (hn : asks.length ≤ maxLen) (hA : At w A 5 Ask.cells asks) (hq : ∀ q ∈ asks, AskAt w q) :
    Calls Try.prog 5 #[.slice A asks.length c] w fun e w' => e = .returned (.bool true) ∧ Below w.heap.size w w' := by
  unfold maxLen at hn
  have HA := Lib.hid hA
  have HQ := Lib.hid hq
  clear hA hq
  go_enter Try.func5, Try.ntmps5
  go_wp2
  go_loopw [3] (fun i wr => ∃ k : Nat, k ≤ asks.length ∧ i = .int .i64 k ∧ Below w.heap.size w wr) (fun i _ => asks.length - (intOf i).toNat)
  case atStart => exact ⟨0, Nat.zero_le _, rfl, Below.refl _ _⟩
  case round =>
    obtain ⟨k, hk, rfl, hb⟩ := hrel
    have HB := Lib.hid hb
    clear hb
    by_cases hlt : k < asks.length ∧ k < 15
    · obtain ⟨hlt, h15⟩ := hlt
      have q15 : decide ((k : Int) < 15) = true := by simp; omega
      obtain ⟨b, off, rfl, hbl, hc⟩ := HA.out (by omega)
      obtain ⟨hl, hat⟩ := HQ.out asks[k] (List.getElem_mem hlt)
      have hc' : ∀ j u, (asks[k].cells)[j]? = some u → wr.cell? ⟨b, off + k * 5 + j, none⟩ = some u := fun j u h => by
        rw [HB.out.cell hbl]; exact hc k hlt j u h
      have HAT := Lib.hid hat
      clear hc hat
      generalize asks[k] = q at *
      obtain ⟨qad, qc, l, qa, qs, qe, qp⟩ := q
      dsimp only at *
      have c0 := hc' 0 _ rfl
      have c1 := hc' 1 _ rfl
      have c2 := hc' 2 _ rfl
      have c3 := hc' 3 _ rfl
      have c4 := hc' 4 _ rfl
      simp only [Nat.add_zero] at c0 c1 c2 c3 c4
      clear hc'
      unfold maxLen at hl
      go_wp2
      clear c0 c1 c2 c3 c4
      obtain ⟨wo, rfl⟩ : ∃ wo : World, wo = wr := ⟨_, rfl⟩
      go_loopw [5] (fun i wr2 => ∃ k : Nat, k ≤ l.length ∧ i = .int .i64 k ∧ Below w.heap.size w wr2 ∧ wo.heap.size < wr2.heap.size ∧ wr2.heap[wo.heap.size]? = some (.cells #[.slice qad l.length qc, .int .i64 qa, .int .i64 qs, .int .i64 qe, .int .i64 qp] 25 (0, 0))) (fun i _ => l.length - (intOf i).toNat)
      case atStart => exact ⟨0, Nat.zero_le _, rfl, HB.out.alloc HB.out.size _, by simp, heap_new _ _⟩
      case round =>
        obtain ⟨k2, hk2, rfl, hb2, hs2, hx2⟩ := hrel
        have HB2 := Lib.hid hb2
        have HX2 := Lib.hid hx2
        have d0 := cell_of_row _ _ 0 _ _ _ hx2
        have d2 := cell_of_row _ _ 2 _ _ _ hx2
        have d3 := cell_of_row _ _ 3 _ _ _ hx2
        have d4 := cell_of_row _ _ 4 _ _ _ hx2
        simp at d0 d2 d3 d4
        clear hb2 hx2
        by_cases hlt2 : k2 < l.length ∧ k2 < 10
        · obtain ⟨hlt2, h10⟩ := hlt2
          have q10 : decide ((k2 : Int) < 10) = true := by simp; omega
          obtain ⟨b2, off2, rfl, hbl2, hc2⟩ := HAT.out (by omega)
          have HC2 := Lib.hid (hc2 k2 hlt2)
          clear hc2
          generalize l[k2] = a at *
          obtain ⟨r2, w2, x2, f2, n2, s2⟩ := a
          go_wp2
          clear d0 d2 d3 d4
          obtain ⟨wp, rfl⟩ : ∃ wp : World, wp = wr := ⟨_, rfl⟩
          go_loopw [6] (fun i wr3 => ∃ acc : Int, -1 ≤ acc ∧ acc ≤ 4 ∧ i = .int .i64 acc ∧ Below w.heap.size w wr3 ∧ wo.heap.size < wr3.heap.size ∧ wr3.heap[wo.heap.size]? = some (.cells #[.slice (some ⟨b2, off2, none⟩) l.length qc, .int .i64 qa, .int .i64 qs, .int .i64 qe, .int .i64 qp] 25 (0, 0))) (fun i _ => (4 - intOf i).toNat)
          case atStart => exact ⟨-1, by omega, by omega, rfl, HB2.out, hs2, HX2.out⟩
          case round =>
            obtain ⟨acc, ha1, ha2, rfl, hb3, hs3, hx3⟩ := hrel
            have HB3 := Lib.hid hb3
            have HX3 := Lib.hid hx3
            have d0 := cell_of_row _ _ 0 _ _ _ hx3
            have d2 := cell_of_row _ _ 2 _ _ _ hx3
            have d3 := cell_of_row _ _ 3 _ _ _ hx3
            have d4 := cell_of_row _ _ 4 _ _ _ hx3
            have hc3 : ∀ j u, (Attr.cells ⟨r2, w2, x2, f2, n2, s2⟩)[j]? = some u → wr.cell? ⟨b2, off2 + k2 * 6 + j, none⟩ = some u := fun j u h => by
              rw [hb3.cell hbl2]; exact HC2.out j u h
            have c0 := hc3 0 _ rfl
            have c1 := hc3 1 _ rfl
            have c2 := hc3 2 _ rfl
            have c3 := hc3 3 _ rfl
            have c4 := hc3 4 _ rfl
            have c5 := hc3 5 _ rfl
            clear hc3 hb3 hx3
            simp at d0 d2 d3 d4
            simp only [Nat.add_zero] at c0 c1 c2 c3 c4 c5
            by_cases h3 : acc ≤ 3
            · obtain ⟨m, hm⟩ : ∃ m, mayOf r2 w2 x2 acc = m := ⟨_, rfl⟩
              obtain ⟨g, hg⟩ : ∃ g, accOk acc = g := ⟨_, rfl⟩
              obtain ⟨fk, fs, fl, fw, fp, hfl⟩ := fault_lit acc qs qe qp f2 m
              rw [hg] at hfl
              have HM1 := Lib.hid (fun n s => may_lit (f := f2) (n := n) (s := s) hg hm)
              have HF1 := Lib.hid (fun n s => flag_lit (n := n) (s := s) hg (by rw [hm]; exact hfl))
              have HF2 := Lib.hid (fun (h : g = true) n s => refFlag_lit (n := n) (s := s) (by rw [hm]; subst h; exact hfl))
              have HM2 := Lib.hid (fun n s => refMay_lit (f := f2) (n := n) (s := s) hm)
              have HAC := Lib.hid (fun W => acc_lit hg W)
              have HFL := Lib.hid hfl
              have HM0 := Lib.hid (fun h : g = false => (hm.symm.trans (mayOf_no (by rw [hg]; exact h)) : m = false))
              clear hm hg hfl
              go_upto_region 12 with (go_at_call 9; refine (HM1.out _ _ _).mono ?_; rintro e w1 ⟨rfl, hb1⟩; have hs1 := hb1.size; (try simp at hs1); have hc1_0 := fun o => (bcell hb1).1 (wo.heap.size) o (by first | omega | (simp; done) | (simp; omega)); have hf1_0 := fun o => (bcell hb1).2.1 (wo.heap.size) o (by first | omega | (simp; done) | (simp; omega)); have hz1_0 := (bcell hb1).2.2 (wo.heap.size) (by first | omega | (simp; done) | (simp; omega)); have HB1 := Lib.hid hb1; clear hb1)
              have HBW := Lib.hid (HB3.out.trans (HB1.out.mono HB3.out.size))
              have HX4 := Lib.hid ((HB1.out.block _ hs3).trans HX3.out)
              have hs4 : wo.heap.size < w1.heap.size := by omega
              clear c0 c1 c2 c3 c4 c5 d0 d2 d3 d4 hc1_0 hf1_0 hz1_0 HB1
              have HFA := Lib.hid (fun w' (hb : Below w1.heap.size w1 w') => ask_facts (b := b2) (off := off2 + k2 * 6) (r := r2) (x := w2) (y := x2) (f := f2) (z := n2) (s := s2) ((hb.block _ hs4).trans HX4.out) (fun j u h => ((HBW.out.trans (hb.mono HBW.out.size)).cell hbl2).trans (HC2.out j u h)))
              refine wp_region_lex [9] (BoxC w1 9 16 17 faultT #[.int .i64 0, .int .i64 0, .int .i64 0, .bool false, .int .i64 0] #[.int .i64 fk, .int .i64 fs, .int .i64 fl, .bool fw, .int .i64 fp]) boxC_looks (by kernel_rfl) (by kernel_rfl) (by kernel_rfl) (boxC_start _) ?_
              refine wpLex_box (by rfl) (by rfl) (by decide) (by rfl) (by rfl) ?_
              apply Exists.intro
              refine ⟨?_, ?_⟩
              · intro w' hb
                have hfacts := HFA.out w' hb; have d0 := hfacts.1; have d2 := hfacts.2.1; have d3 := hfacts.2.2.1; have d4 := hfacts.2.2.2.1; have c0 := hfacts.2.2.2.2.1; have c1 := hfacts.2.2.2.2.2.1; have c2 := hfacts.2.2.2.2.2.2.1; have c3 := hfacts.2.2.2.2.2.2.2.1; have c4 := hfacts.2.2.2.2.2.2.2.2.1; have c5 := hfacts.2.2.2.2.2.2.2.2.2; clear hfacts
                go_simp
                exact ⟨rfl, Below.refl _ _⟩
              conv => arg 9; simp only [put_lit, put_lit_none, List.set]
              refine wpLex_box (by rfl) (by rfl) (by decide) (by rfl) (by rfl) ?_
              apply Exists.intro
              refine ⟨?_, ?_⟩
              · intro w' hb
                have hfacts := HFA.out w' hb; have d0 := hfacts.1; have d2 := hfacts.2.1; have d3 := hfacts.2.2.1; have d4 := hfacts.2.2.2.1; have c0 := hfacts.2.2.2.2.1; have c1 := hfacts.2.2.2.2.2.1; have c2 := hfacts.2.2.2.2.2.2.1; have c3 := hfacts.2.2.2.2.2.2.2.1; have c4 := hfacts.2.2.2.2.2.2.2.2.1; have c5 := hfacts.2.2.2.2.2.2.2.2.2; clear hfacts
                go_simp
                exact ⟨rfl, Below.refl _ _⟩
              conv => arg 9; simp only [put_lit, put_lit_none, List.set]
              refine wpLex_box (by rfl) (by rfl) (by decide) (by rfl) (by rfl) ?_
              apply Exists.intro
              refine ⟨?_, ?_⟩
              · intro w' hb
                have hfacts := HFA.out w' hb; have d0 := hfacts.1; have d2 := hfacts.2.1; have d3 := hfacts.2.2.1; have d4 := hfacts.2.2.2.1; have c0 := hfacts.2.2.2.2.1; have c1 := hfacts.2.2.2.2.2.1; have c2 := hfacts.2.2.2.2.2.2.1; have c3 := hfacts.2.2.2.2.2.2.2.1; have c4 := hfacts.2.2.2.2.2.2.2.2.1; have c5 := hfacts.2.2.2.2.2.2.2.2.2; clear hfacts
                go_simp
                exact ⟨rfl, Below.refl _ _⟩
              conv => arg 9; simp only [put_lit, put_lit_none, List.set]
              refine wpLex_box (by rfl) (by rfl) (by decide) (by rfl) (by rfl) ?_
              apply Exists.intro
              refine ⟨?_, ?_⟩
              · intro w' hb
                have hfacts := HFA.out w' hb; have d0 := hfacts.1; have d2 := hfacts.2.1; have d3 := hfacts.2.2.1; have d4 := hfacts.2.2.2.1; have c0 := hfacts.2.2.2.2.1; have c1 := hfacts.2.2.2.2.2.1; have c2 := hfacts.2.2.2.2.2.2.1; have c3 := hfacts.2.2.2.2.2.2.2.1; have c4 := hfacts.2.2.2.2.2.2.2.2.1; have c5 := hfacts.2.2.2.2.2.2.2.2.2; clear hfacts
                go_simp
                exact ⟨rfl, Below.refl _ _⟩
              conv => arg 9; simp only [put_lit, put_lit_none, List.set]
              refine wpLex_box (by rfl) (by rfl) (by decide) (by rfl) (by rfl) ?_
              apply Exists.intro
              refine ⟨?_, ?_⟩
              · intro w' hb
                have hfacts := HFA.out w' hb; have d0 := hfacts.1; have d2 := hfacts.2.1; have d3 := hfacts.2.2.1; have d4 := hfacts.2.2.2.1; have c0 := hfacts.2.2.2.2.1; have c1 := hfacts.2.2.2.2.2.1; have c2 := hfacts.2.2.2.2.2.2.1; have c3 := hfacts.2.2.2.2.2.2.2.1; have c4 := hfacts.2.2.2.2.2.2.2.2.1; have c5 := hfacts.2.2.2.2.2.2.2.2.2; clear hfacts
                go_simp
                exact ⟨rfl, Below.refl _ _⟩
              conv => arg 9; simp only [put_lit, put_lit_none, List.set]
              refine wpLex_box (by rfl) (by rfl) (by decide) (by rfl) (by rfl) ?_
              apply Exists.intro
              refine ⟨?_, ?_⟩
              · intro w' hb
                have hfacts := HFA.out w' hb; have d0 := hfacts.1; have d2 := hfacts.2.1; have d3 := hfacts.2.2.1; have d4 := hfacts.2.2.2.1; have c0 := hfacts.2.2.2.2.1; have c1 := hfacts.2.2.2.2.2.1; have c2 := hfacts.2.2.2.2.2.2.1; have c3 := hfacts.2.2.2.2.2.2.2.1; have c4 := hfacts.2.2.2.2.2.2.2.2.1; have c5 := hfacts.2.2.2.2.2.2.2.2.2; clear hfacts
                go_simp
                exact ⟨rfl, Below.refl _ _⟩
              conv => arg 9; simp only [put_lit, put_lit_none, List.set]
              refine wpLex_box (by rfl) (by rfl) (by decide) (by rfl) (by rfl) ?_
              apply Exists.intro
              refine ⟨?_, ?_⟩
              · intro w' hb
                have hfacts := HFA.out w' hb; have d0 := hfacts.1; have d2 := hfacts.2.1; have d3 := hfacts.2.2.1; have d4 := hfacts.2.2.2.1; have c0 := hfacts.2.2.2.2.1; have c1 := hfacts.2.2.2.2.2.1; have c2 := hfacts.2.2.2.2.2.2.1; have c3 := hfacts.2.2.2.2.2.2.2.1; have c4 := hfacts.2.2.2.2.2.2.2.2.1; have c5 := hfacts.2.2.2.2.2.2.2.2.2; clear hfacts
                go_simp
                exact ⟨rfl, Below.refl _ _⟩
              conv => arg 9; simp only [put_lit, put_lit_none, List.set]
              refine wpLex_box (by rfl) (by rfl) (by decide) (by rfl) (by rfl) ?_
              apply Exists.intro
              refine ⟨?_, ?_⟩
              · intro w' hb
                have hfacts := HFA.out w' hb; have d0 := hfacts.1; have d2 := hfacts.2.1; have d3 := hfacts.2.2.1; have d4 := hfacts.2.2.2.1; have c0 := hfacts.2.2.2.2.1; have c1 := hfacts.2.2.2.2.2.1; have c2 := hfacts.2.2.2.2.2.2.1; have c3 := hfacts.2.2.2.2.2.2.2.1; have c4 := hfacts.2.2.2.2.2.2.2.2.1; have c5 := hfacts.2.2.2.2.2.2.2.2.2; clear hfacts
                go_simp
                exact ⟨rfl, Below.refl _ _⟩
              conv => arg 9; simp only [put_lit, put_lit_none, List.set]
              refine wpLex_box (by rfl) (by rfl) (by decide) (by rfl) (by rfl) ?_
              apply Exists.intro
              refine ⟨?_, ?_⟩
              · intro w' hb
                have hfacts := HFA.out w' hb; have d0 := hfacts.1; have d2 := hfacts.2.1; have d3 := hfacts.2.2.1; have d4 := hfacts.2.2.2.1; have c0 := hfacts.2.2.2.2.1; have c1 := hfacts.2.2.2.2.2.1; have c2 := hfacts.2.2.2.2.2.2.1; have c3 := hfacts.2.2.2.2.2.2.2.1; have c4 := hfacts.2.2.2.2.2.2.2.2.1; have c5 := hfacts.2.2.2.2.2.2.2.2.2; clear hfacts
                go_simp
                exact ⟨rfl, Below.refl _ _⟩
              conv => arg 9; simp only [put_lit, put_lit_none, List.set]
              refine wpLex_box (by rfl) (by rfl) (by decide) (by rfl) (by rfl) ?_
              apply Exists.intro
              refine ⟨?_, ?_⟩
              · intro w' hb
                have hfacts := HFA.out w' hb; have d0 := hfacts.1; have d2 := hfacts.2.1; have d3 := hfacts.2.2.1; have d4 := hfacts.2.2.2.1; have c0 := hfacts.2.2.2.2.1; have c1 := hfacts.2.2.2.2.2.1; have c2 := hfacts.2.2.2.2.2.2.1; have c3 := hfacts.2.2.2.2.2.2.2.1; have c4 := hfacts.2.2.2.2.2.2.2.2.1; have c5 := hfacts.2.2.2.2.2.2.2.2.2; clear hfacts
                go_simp
                exact ⟨rfl, Below.refl _ _⟩
              conv => arg 9; simp only [put_lit, put_lit_none, List.set]
              refine wpLex_box (by rfl) (by rfl) (by decide) (by rfl) (by rfl) ?_
              apply Exists.intro
              refine ⟨?_, ?_⟩
              · intro w' hb
                have hfacts := HFA.out w' hb; have d0 := hfacts.1; have d2 := hfacts.2.1; have d3 := hfacts.2.2.1; have d4 := hfacts.2.2.2.1; have c0 := hfacts.2.2.2.2.1; have c1 := hfacts.2.2.2.2.2.1; have c2 := hfacts.2.2.2.2.2.2.1; have c3 := hfacts.2.2.2.2.2.2.2.1; have c4 := hfacts.2.2.2.2.2.2.2.2.1; have c5 := hfacts.2.2.2.2.2.2.2.2.2; clear hfacts
                go_simp
                exact ⟨rfl, Below.refl _ _⟩
              conv => arg 9; simp only [put_lit, put_lit_none, List.set]
              refine wpLex_box (by rfl) (by rfl) (by decide) (by rfl) (by rfl) ?_
              apply Exists.intro
              refine ⟨?_, ?_⟩
              · intro w' hb
                have hfacts := HFA.out w' hb; have d0 := hfacts.1; have d2 := hfacts.2.1; have d3 := hfacts.2.2.1; have d4 := hfacts.2.2.2.1; have c0 := hfacts.2.2.2.2.1; have c1 := hfacts.2.2.2.2.2.1; have c2 := hfacts.2.2.2.2.2.2.1; have c3 := hfacts.2.2.2.2.2.2.2.1; have c4 := hfacts.2.2.2.2.2.2.2.2.1; have c5 := hfacts.2.2.2.2.2.2.2.2.2; clear hfacts
                go_simp
                exact ⟨rfl, Below.refl _ _⟩
              conv => arg 9; simp only [put_lit, put_lit_none, List.set]
              refine wpLex_box (by rfl) (by rfl) (by decide) (by rfl) (by rfl) ?_
              apply Exists.intro
              refine ⟨?_, ?_⟩
              · intro w' hb
                skip
                go_simp
                refine (HF1.out _ _ _).mono ?_
                rintro e w2 ⟨rfl, hb2⟩
                first | exact ⟨_, rfl, rfl, hb2⟩ | exact ⟨rfl, hb2⟩
              conv => arg 9; simp only [put_lit, put_lit_none, List.set]
              refine wpLex_box (by rfl) (by rfl) (by decide) (by rfl) (by rfl) ?_
              apply Exists.intro
              refine ⟨?_, ?_⟩
              · intro w' hb
                skip
                go_simp
                exact ⟨rfl, Below.refl _ _⟩
              conv => arg 9; simp only [put_lit, put_lit_none, List.set]
              refine wpLex_box (by rfl) (by rfl) (by decide) (by rfl) (by rfl) ?_
              apply Exists.intro
              refine ⟨?_, ?_⟩
              · intro w' hb
                skip
                go_simp
                exact ⟨rfl, Below.refl _ _⟩
              conv => arg 9; simp only [put_lit, put_lit_none, List.set]
              refine wpLex_box (by rfl) (by rfl) (by decide) (by rfl) (by rfl) ?_
              apply Exists.intro
              refine ⟨?_, ?_⟩
              · intro w' hb
                skip
                go_simp
                exact ⟨rfl, Below.refl _ _⟩
              conv => arg 9; simp only [put_lit, put_lit_none, List.set]
              refine wpLex_want undef rfl (comes_alloc rfl rfl (by simp) (by kernel_rfl) rfl (fun w => by go_simp; rfl)) ?_
              conv => arg 9; simp only [put_lit, put_lit_none, List.set]
              refine wpLex_want undef rfl (comes_store rfl (by kernel_rfl) ?_) ?_
              · intro g w' hg hz
                have e0 := cell_of_row _ _ 0 _ _ _ hz
                have e1 := cell_of_row _ _ 1 _ _ _ hz
                have e2 := cell_of_row _ _ 2 _ _ _ hz
                have e3 := cell_of_row _ _ 3 _ _ _ hz
                have e4 := cell_of_row _ _ 4 _ _ _ hz
                have ef := fun j => frozen_of_row _ _ j _ _ hz
                simp at e0 e1 e2 e3 e4
                simp only [put_lit, List.set]
                go_simp
                exact ⟨by repeat' (first | (with_reducible exact Below.refl _ _) | (with_reducible (refine Below.setCell ?_ ?_ _)) | (with_reducible (refine Below.alloc ?_ ?_ _)) | (with_reducible (refine Below.drew ?_)) | omega | (simp; done) | (simp; omega)), (heap_set_same (heap_set_same (heap_set_same (heap_set_same (heap_set_same hz 0 _) 1 _) 2 _) 3 _) 4 _)⟩
              conv => arg 9; simp only [put_lit, put_lit_none, List.set]
              refine wpLex_box (by rfl) (by rfl) (by decide) (by rfl) (by rfl) ?_
              apply Exists.intro
              refine ⟨?_, ?_⟩
              · intro w' hb
                skip
                go_simp
                exact ⟨rfl, Below.refl _ _⟩
              conv => arg 9; simp only [put_lit, put_lit_none, List.set]
              refine wpLex_nil ?_
              intro w4 b4 d hd hC ho
              obtain ⟨gb, rfl, hgb, hxg, hb4⟩ := boxC_end hC (hd 16 (by decide)) (hd 17 (by decide)) ho
              simp only [put_lit, List.set]
              have HB4 := Lib.hid (HBW.out.trans (hb4.mono HBW.out.size))
              have HX5 := Lib.hid ((hb4.block _ hs4).trans HX4.out)
              have HXG := Lib.hid hxg
              have hs5 := hb4.size
              have hgl := heap_lt hxg
              have E0 : formIf false = 1 := rfl
              have E1 : formIf true = 0 := rfl
              have g0 := cell_of_row _ _ 0 _ _ _ hxg
              have g1 := cell_of_row _ _ 1 _ _ _ hxg
              have g2 := cell_of_row _ _ 2 _ _ _ hxg
              have g3 := cell_of_row _ _ 3 _ _ _ hxg
              have g4 := cell_of_row _ _ 4 _ _ _ hxg
              simp at g0 g1 g2 g3 g4
              clear hC ho hd hb4 hxg HFA
              cases g
              · have hz := HFL.out
                have hmz := HM0.out rfl
                simp [faultCells] at hz
                obtain ⟨rfl, rfl, rfl, rfl, rfl⟩ := hz
                subst hmz
                go_wp2_with (first | (go_at_call 11; refine (HAC.out _).mono ?_; rintro e w' ⟨rfl, rfl⟩) | (go_at_call 14; refine (num_any _ _).mono ?_; rintro e w' ⟨rfl, rfl⟩))
                go_roundw
                case rel => exact ⟨acc + 1, by omega, by omega, rfl, HB4.out.alloc HB4.out.size _, by simp; omega, (heap_old _ _ (by omega)).trans HX5.out⟩
                case measure => simp [intOf]; omega
              · go_upto_region 17 with (first | (go_at_call 11; refine (HAC.out _).mono ?_; rintro e w' ⟨rfl, rfl⟩))
                have HFB := Lib.hid (fun w' (hb : Below (w4.heap.size + 1) (w4.alloc (.cells #[.int .i64 0, .int .i64 0, .int .i64 0, .bool false, .int .i64 0] faultT)) w') =>
                  ask_facts (b := b2) (off := off2 + k2 * 6) (r := r2) (x := w2) (y := x2) (f := f2) (z := n2) (s := s2) (((hb.block _ (by omega)).trans (heap_old _ _ (by omega))).trans HX5.out)
                    (fun j u h => ((below_call HB4.out (below_new hb) HB4.out.size).cell hbl2).trans (HC2.out j u h)))
                refine wp_region_class_tail 21 (fun w' => Below (w4.heap.size + 1) (w4.alloc (.cells #[.int .i64 0, .int .i64 0, .int .i64 0, .bool false, .int .i64 0] faultT)) w') (by kernel_rfl) (by kernel_rfl) (by kernel_rfl) (Below.refl _ _).drew ?_
                refine wpLex_plain (by rfl) ?_
                apply Exists.intro
                refine ⟨?_, ?_⟩
                · intro w' hb
                  have hfacts := HFB.out w' hb; have d0 := hfacts.1; have d2 := hfacts.2.1; have d3 := hfacts.2.2.1; have d4 := hfacts.2.2.2.1; have c0 := hfacts.2.2.2.2.1; have c1 := hfacts.2.2.2.2.2.1; have c2 := hfacts.2.2.2.2.2.2.1; have c3 := hfacts.2.2.2.2.2.2.2.1; have c4 := hfacts.2.2.2.2.2.2.2.2.1; have c5 := hfacts.2.2.2.2.2.2.2.2.2; clear hfacts
                  go_simp
                  first | exact rfl | exact ⟨rfl, hb⟩
                conv => arg 9; simp only [put_lit, put_lit_none, List.set]
                refine wpLex_plain (by rfl) ?_
                apply Exists.intro
                refine ⟨?_, ?_⟩
                · intro w' hb
                  have hfacts := HFB.out w' hb; have d0 := hfacts.1; have d2 := hfacts.2.1; have d3 := hfacts.2.2.1; have d4 := hfacts.2.2.2.1; have c0 := hfacts.2.2.2.2.1; have c1 := hfacts.2.2.2.2.2.1; have c2 := hfacts.2.2.2.2.2.2.1; have c3 := hfacts.2.2.2.2.2.2.2.1; have c4 := hfacts.2.2.2.2.2.2.2.2.1; have c5 := hfacts.2.2.2.2.2.2.2.2.2; clear hfacts
                  go_simp
                  first | exact rfl | exact ⟨rfl, hb⟩
                conv => arg 9; simp only [put_lit, put_lit_none, List.set]
                refine wpLex_plain (by rfl) ?_
                apply Exists.intro
                refine ⟨?_, ?_⟩
                · intro w' hb
                  have hfacts := HFB.out w' hb; have d0 := hfacts.1; have d2 := hfacts.2.1; have d3 := hfacts.2.2.1; have d4 := hfacts.2.2.2.1; have c0 := hfacts.2.2.2.2.1; have c1 := hfacts.2.2.2.2.2.1; have c2 := hfacts.2.2.2.2.2.2.1; have c3 := hfacts.2.2.2.2.2.2.2.1; have c4 := hfacts.2.2.2.2.2.2.2.2.1; have c5 := hfacts.2.2.2.2.2.2.2.2.2; clear hfacts
                  go_simp
                  first | exact rfl | exact ⟨rfl, hb⟩
                conv => arg 9; simp only [put_lit, put_lit_none, List.set]
                refine wpLex_plain (by rfl) ?_
                apply Exists.intro
                refine ⟨?_, ?_⟩
                · intro w' hb
                  have hfacts := HFB.out w' hb; have d0 := hfacts.1; have d2 := hfacts.2.1; have d3 := hfacts.2.2.1; have d4 := hfacts.2.2.2.1; have c0 := hfacts.2.2.2.2.1; have c1 := hfacts.2.2.2.2.2.1; have c2 := hfacts.2.2.2.2.2.2.1; have c3 := hfacts.2.2.2.2.2.2.2.1; have c4 := hfacts.2.2.2.2.2.2.2.2.1; have c5 := hfacts.2.2.2.2.2.2.2.2.2; clear hfacts
                  go_simp
                  first | exact rfl | exact ⟨rfl, hb⟩
                conv => arg 9; simp only [put_lit, put_lit_none, List.set]
                refine wpLex_plain (by rfl) ?_
                apply Exists.intro
                refine ⟨?_, ?_⟩
                · intro w' hb
                  have hfacts := HFB.out w' hb; have d0 := hfacts.1; have d2 := hfacts.2.1; have d3 := hfacts.2.2.1; have d4 := hfacts.2.2.2.1; have c0 := hfacts.2.2.2.2.1; have c1 := hfacts.2.2.2.2.2.1; have c2 := hfacts.2.2.2.2.2.2.1; have c3 := hfacts.2.2.2.2.2.2.2.1; have c4 := hfacts.2.2.2.2.2.2.2.2.1; have c5 := hfacts.2.2.2.2.2.2.2.2.2; clear hfacts
                  go_simp
                  first | exact rfl | exact ⟨rfl, hb⟩
                conv => arg 9; simp only [put_lit, put_lit_none, List.set]
                refine wpLex_plain (by rfl) ?_
                apply Exists.intro
                refine ⟨?_, ?_⟩
                · intro w' hb
                  have hfacts := HFB.out w' hb; have d0 := hfacts.1; have d2 := hfacts.2.1; have d3 := hfacts.2.2.1; have d4 := hfacts.2.2.2.1; have c0 := hfacts.2.2.2.2.1; have c1 := hfacts.2.2.2.2.2.1; have c2 := hfacts.2.2.2.2.2.2.1; have c3 := hfacts.2.2.2.2.2.2.2.1; have c4 := hfacts.2.2.2.2.2.2.2.2.1; have c5 := hfacts.2.2.2.2.2.2.2.2.2; clear hfacts
                  go_simp
                  first | exact rfl | exact ⟨rfl, hb⟩
                conv => arg 9; simp only [put_lit, put_lit_none, List.set]
                refine wpLex_plain (by rfl) ?_
                apply Exists.intro
                refine ⟨?_, ?_⟩
                · intro w' hb
                  have hsz := hb.size; simp at hsz
                  go_simp
                  refine (HM2.out _ _ _).mono ?_
                  rintro e w2 ⟨rfl, hb2⟩
                  first | exact ⟨_, rfl, rfl, hb.trans (hb2.mono hsz)⟩ | exact ⟨rfl, hb.trans (hb2.mono hsz)⟩
                conv => arg 9; simp only [put_lit, put_lit_none, List.set]
                refine wpLex_plain (by rfl) ?_
                apply Exists.intro
                refine ⟨?_, ?_⟩
                · intro w' hb
                  have hfacts := HFB.out w' hb; have d0 := hfacts.1; have d2 := hfacts.2.1; have d3 := hfacts.2.2.1; have d4 := hfacts.2.2.2.1; have c0 := hfacts.2.2.2.2.1; have c1 := hfacts.2.2.2.2.2.1; have c2 := hfacts.2.2.2.2.2.2.1; have c3 := hfacts.2.2.2.2.2.2.2.1; have c4 := hfacts.2.2.2.2.2.2.2.2.1; have c5 := hfacts.2.2.2.2.2.2.2.2.2; clear hfacts
                  go_simp
                  first | exact rfl | exact ⟨rfl, hb⟩
                conv => arg 9; simp only [put_lit, put_lit_none, List.set]
                refine wpLex_plain (by rfl) ?_
                apply Exists.intro
                refine ⟨?_, ?_⟩
                · intro w' hb
                  have hfacts := HFB.out w' hb; have d0 := hfacts.1; have d2 := hfacts.2.1; have d3 := hfacts.2.2.1; have d4 := hfacts.2.2.2.1; have c0 := hfacts.2.2.2.2.1; have c1 := hfacts.2.2.2.2.2.1; have c2 := hfacts.2.2.2.2.2.2.1; have c3 := hfacts.2.2.2.2.2.2.2.1; have c4 := hfacts.2.2.2.2.2.2.2.2.1; have c5 := hfacts.2.2.2.2.2.2.2.2.2; clear hfacts
                  go_simp
                  first | exact rfl | exact ⟨rfl, hb⟩
                conv => arg 9; simp only [put_lit, put_lit_none, List.set]
                refine wpLex_plain (by rfl) ?_
                apply Exists.intro
                refine ⟨?_, ?_⟩
                · intro w' hb
                  have hfacts := HFB.out w' hb; have d0 := hfacts.1; have d2 := hfacts.2.1; have d3 := hfacts.2.2.1; have d4 := hfacts.2.2.2.1; have c0 := hfacts.2.2.2.2.1; have c1 := hfacts.2.2.2.2.2.1; have c2 := hfacts.2.2.2.2.2.2.1; have c3 := hfacts.2.2.2.2.2.2.2.1; have c4 := hfacts.2.2.2.2.2.2.2.2.1; have c5 := hfacts.2.2.2.2.2.2.2.2.2; clear hfacts
                  go_simp
                  first | exact rfl | exact ⟨rfl, hb⟩
                conv => arg 9; simp only [put_lit, put_lit_none, List.set]
                refine wpLex_plain (by rfl) ?_
                apply Exists.intro
                refine ⟨?_, ?_⟩
                · intro w' hb
                  have hfacts := HFB.out w' hb; have d0 := hfacts.1; have d2 := hfacts.2.1; have d3 := hfacts.2.2.1; have d4 := hfacts.2.2.2.1; have c0 := hfacts.2.2.2.2.1; have c1 := hfacts.2.2.2.2.2.1; have c2 := hfacts.2.2.2.2.2.2.1; have c3 := hfacts.2.2.2.2.2.2.2.1; have c4 := hfacts.2.2.2.2.2.2.2.2.1; have c5 := hfacts.2.2.2.2.2.2.2.2.2; clear hfacts
                  go_simp
                  first | exact rfl | exact ⟨rfl, hb⟩
                conv => arg 9; simp only [put_lit, put_lit_none, List.set]
                refine wpLex_plain (by rfl) ?_
                apply Exists.intro
                refine ⟨?_, ?_⟩
                · intro w' hb
                  have hfacts := HFB.out w' hb; have d0 := hfacts.1; have d2 := hfacts.2.1; have d3 := hfacts.2.2.1; have d4 := hfacts.2.2.2.1; have c0 := hfacts.2.2.2.2.1; have c1 := hfacts.2.2.2.2.2.1; have c2 := hfacts.2.2.2.2.2.2.1; have c3 := hfacts.2.2.2.2.2.2.2.1; have c4 := hfacts.2.2.2.2.2.2.2.2.1; have c5 := hfacts.2.2.2.2.2.2.2.2.2; clear hfacts
                  go_simp
                  first | exact rfl | exact ⟨rfl, hb⟩
                conv => arg 9; simp only [put_lit, put_lit_none, List.set]
                refine wpLex_plain (by rfl) ?_
                apply Exists.intro
                refine ⟨?_, ?_⟩
                · intro w' hb
                  have hfacts := HFB.out w' hb; have d0 := hfacts.1; have d2 := hfacts.2.1; have d3 := hfacts.2.2.1; have d4 := hfacts.2.2.2.1; have c0 := hfacts.2.2.2.2.1; have c1 := hfacts.2.2.2.2.2.1; have c2 := hfacts.2.2.2.2.2.2.1; have c3 := hfacts.2.2.2.2.2.2.2.1; have c4 := hfacts.2.2.2.2.2.2.2.2.1; have c5 := hfacts.2.2.2.2.2.2.2.2.2; clear hfacts
                  go_simp
                  first | exact rfl | exact ⟨rfl, hb⟩
                conv => arg 9; simp only [put_lit, put_lit_none, List.set]
                refine wpLex_plain (by rfl) ?_
                apply Exists.intro
                refine ⟨?_, ?_⟩
                · intro w' hb
                  have hfacts := HFB.out w' hb; have d0 := hfacts.1; have d2 := hfacts.2.1; have d3 := hfacts.2.2.1; have d4 := hfacts.2.2.2.1; have c0 := hfacts.2.2.2.2.1; have c1 := hfacts.2.2.2.2.2.1; have c2 := hfacts.2.2.2.2.2.2.1; have c3 := hfacts.2.2.2.2.2.2.2.1; have c4 := hfacts.2.2.2.2.2.2.2.2.1; have c5 := hfacts.2.2.2.2.2.2.2.2.2; clear hfacts
                  go_simp
                  first | exact rfl | exact ⟨rfl, hb⟩
                conv => arg 9; simp only [put_lit, put_lit_none, List.set]
                refine wpLex_plain (by rfl) ?_
                apply Exists.intro
                refine ⟨?_, ?_⟩
                · intro w' hb
                  have hfacts := HFB.out w' hb; have d0 := hfacts.1; have d2 := hfacts.2.1; have d3 := hfacts.2.2.1; have d4 := hfacts.2.2.2.1; have c0 := hfacts.2.2.2.2.1; have c1 := hfacts.2.2.2.2.2.1; have c2 := hfacts.2.2.2.2.2.2.1; have c3 := hfacts.2.2.2.2.2.2.2.1; have c4 := hfacts.2.2.2.2.2.2.2.2.1; have c5 := hfacts.2.2.2.2.2.2.2.2.2; clear hfacts
                  go_simp
                  first | exact rfl | exact ⟨rfl, hb⟩
                conv => arg 9; simp only [put_lit, put_lit_none, List.set]
                refine wpLex_plain (by rfl) ?_
                apply Exists.intro
                refine ⟨?_, ?_⟩
                · intro w' hb
                  have hfacts := HFB.out w' hb; have d0 := hfacts.1; have d2 := hfacts.2.1; have d3 := hfacts.2.2.1; have d4 := hfacts.2.2.2.1; have c0 := hfacts.2.2.2.2.1; have c1 := hfacts.2.2.2.2.2.1; have c2 := hfacts.2.2.2.2.2.2.1; have c3 := hfacts.2.2.2.2.2.2.2.1; have c4 := hfacts.2.2.2.2.2.2.2.2.1; have c5 := hfacts.2.2.2.2.2.2.2.2.2; clear hfacts
                  go_simp
                  first | exact rfl | exact ⟨rfl, hb⟩
                conv => arg 9; simp only [put_lit, put_lit_none, List.set]
                refine wpLex_plain (by rfl) ?_
                apply Exists.intro
                refine ⟨?_, ?_⟩
                · intro w' hb
                  have hfacts := HFB.out w' hb; have d0 := hfacts.1; have d2 := hfacts.2.1; have d3 := hfacts.2.2.1; have d4 := hfacts.2.2.2.1; have c0 := hfacts.2.2.2.2.1; have c1 := hfacts.2.2.2.2.2.1; have c2 := hfacts.2.2.2.2.2.2.1; have c3 := hfacts.2.2.2.2.2.2.2.1; have c4 := hfacts.2.2.2.2.2.2.2.2.1; have c5 := hfacts.2.2.2.2.2.2.2.2.2; clear hfacts
                  go_simp
                  first | exact rfl | exact ⟨rfl, hb⟩
                conv => arg 9; simp only [put_lit, put_lit_none, List.set]
                refine wpLex_plain (by rfl) ?_
                apply Exists.intro
                refine ⟨?_, ?_⟩
                · intro w' hb
                  have hfacts := HFB.out w' hb; have d0 := hfacts.1; have d2 := hfacts.2.1; have d3 := hfacts.2.2.1; have d4 := hfacts.2.2.2.1; have c0 := hfacts.2.2.2.2.1; have c1 := hfacts.2.2.2.2.2.1; have c2 := hfacts.2.2.2.2.2.2.1; have c3 := hfacts.2.2.2.2.2.2.2.1; have c4 := hfacts.2.2.2.2.2.2.2.2.1; have c5 := hfacts.2.2.2.2.2.2.2.2.2; clear hfacts
                  go_simp
                  first | exact rfl | exact ⟨rfl, hb⟩
                conv => arg 9; simp only [put_lit, put_lit_none, List.set]
                refine wpLex_plain (by rfl) ?_
                apply Exists.intro
                refine ⟨?_, ?_⟩
                · intro w' hb
                  have hfacts := HFB.out w' hb; have d0 := hfacts.1; have d2 := hfacts.2.1; have d3 := hfacts.2.2.1; have d4 := hfacts.2.2.2.1; have c0 := hfacts.2.2.2.2.1; have c1 := hfacts.2.2.2.2.2.1; have c2 := hfacts.2.2.2.2.2.2.1; have c3 := hfacts.2.2.2.2.2.2.2.1; have c4 := hfacts.2.2.2.2.2.2.2.2.1; have c5 := hfacts.2.2.2.2.2.2.2.2.2; clear hfacts
                  go_simp
                  first | exact rfl | exact ⟨rfl, hb⟩
                conv => arg 9; simp only [put_lit, put_lit_none, List.set]
                refine wpLex_plain (by rfl) ?_
                apply Exists.intro
                refine ⟨?_, ?_⟩
                · intro w' hb
                  have hsz := hb.size; simp at hsz
                  go_simp
                  refine (HF2.out (by first | exact rfl | trivial) _ _ _).mono ?_
                  rintro e w2 ⟨rfl, hb2⟩
                  first | exact ⟨_, rfl, rfl, hb.trans (hb2.mono hsz)⟩ | exact ⟨rfl, hb.trans (hb2.mono hsz)⟩
                conv => arg 9; simp only [put_lit, put_lit_none, List.set]
                refine wpLex_plain (by rfl) ?_
                apply Exists.intro
                refine ⟨?_, ?_⟩
                · intro w' hb
                  skip
                  go_simp
                  first | exact rfl | exact ⟨rfl, hb⟩
                conv => arg 9; simp only [put_lit, put_lit_none, List.set]
                refine wpLex_nil ?_
                intro w6 hb6
                simp only [List.drop]
                have hx6 := (hb6.block w4.heap.size (by omega)).trans (heap_new _ _)
                have hg6 := ((hb6.block gb (by omega)).trans (heap_old _ _ hgl)).trans HXG.out
                have HX6 := Lib.hid (((hb6.block wo.heap.size (by omega)).trans (heap_old _ _ (by omega))).trans HX5.out)
                have HB6 := Lib.hid (below_call HB4.out (below_new hb6) HB4.out.size)
                have hs6 := hb6.size
                rw [size_new] at hs6
                have hsw := HB4.out.size
                have hne : ¬ gb = w4.heap.size := by omega
                clear hb6 HFB g0 g1 g2 g3 g4
                have e0 := cell_of_row _ _ 0 _ _ _ hx6
                have e1 := cell_of_row _ _ 1 _ _ _ hx6
                have e2 := cell_of_row _ _ 2 _ _ _ hx6
                have e3 := cell_of_row _ _ 3 _ _ _ hx6
                have e4 := cell_of_row _ _ 4 _ _ _ hx6
                have ef := fun j => frozen_of_row _ _ j _ _ hx6
                have g0 := cell_of_row _ _ 0 _ _ _ hg6
                have g1 := cell_of_row _ _ 1 _ _ _ hg6
                have g2 := cell_of_row _ _ 2 _ _ _ hg6
                have g3 := cell_of_row _ _ 3 _ _ _ hg6
                have g4 := cell_of_row _ _ 4 _ _ _ hg6
                simp at e0 e1 e2 e3 e4 g0 g1 g2 g3 g4
                clear hx6 hg6
                go_wp2_with (go_at_call 14; refine (num_any _ _).mono ?_; rintro e w' ⟨rfl, rfl⟩)
                go_roundw
                case rel =>
                  refine ⟨acc + 1, by omega, by omega, rfl, ?_, ?_, ?_⟩
                  · repeat' (first | (with_reducible exact Below.refl _ _) | (with_reducible (refine Below.setCell ?_ ?_ _)) | (with_reducible (refine Below.alloc ?_ ?_ _)) | (with_reducible (refine Below.drew ?_)) | (with_reducible (refine below_call ?_ HB6.out ?_)) | omega | (simp; done) | (simp; omega))
                  · simp only [size_set]; omega
                  · exact ((heap_set_other (by first | omega | (simp; omega)) _).trans ((heap_set_other (by first | omega | (simp; omega)) _).trans ((heap_set_other (by first | omega | (simp; omega)) _).trans ((heap_set_other (by first | omega | (simp; omega)) _).trans ((heap_set_other (by first | omega | (simp; omega)) _).trans HX6.out)))))
                case measure => simp [intOf]; omega
            · clear c0 c1 c2 c3 c4 c5
              have h4 : 3 < acc := by omega
              go_wp2
              go_roundw
              case rel => exact ⟨k2 + 1, by omega, by go_num, HB3.out, hs3, HX3.out⟩
              case measure => simp [intOf]; omega
        · have hno : ¬ (k2 < l.length ∧ k2 < 10) := hlt2
          by_cases h1 : k2 < l.length
          · have h2 : ¬ k2 < 10 := fun h => hno ⟨h1, h⟩
            clear hno hlt2
            go_wp2
            go_roundw
            case rel => exact ⟨k + 1, by omega, by go_num, HB2.out⟩
            case measure => simp [intOf]; omega
          · clear hno hlt2
            go_wp2
            go_roundw
            case rel => exact ⟨k + 1, by omega, by go_num, HB2.out⟩
            case measure => simp [intOf]; omega
    · have hno : ¬ (k < asks.length ∧ k < 15) := hlt
      by_cases h1 : k < asks.length
      · have h2 : ¬ k < 15 := fun h => hno ⟨h1, h⟩
        clear hno hlt
        go_wp2_with (go_at_call 8; refine (wakes_any _).mono ?_; rintro e w1 ⟨rfl, hb1⟩; have HB1 := Lib.hid hb1; clear hb1)
        go_ret
        exact ⟨rfl, below_call HB.out HB1.out HB.out.size⟩
      · clear hno hlt
        go_wp2_with (go_at_call 8; refine (wakes_any _).mono ?_; rintro e w1 ⟨rfl, hb1⟩; have HB1 := Lib.hid hb1; clear hb1)
        go_ret
        exact ⟨rfl, below_call HB.out HB1.out HB.out.size⟩

end Go.Proofs.Ytjbjepjbnklccaa
