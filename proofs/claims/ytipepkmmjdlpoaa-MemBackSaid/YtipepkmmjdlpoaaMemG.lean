/-
  Loops over rows of numbers: equality, a copy in new memory, a place of a number, the write over. Conditions: the lengths fit.
-/
import Derived.Test.YtipepkmmjdlpoaaMemF
namespace Go.Proofs.Ytipepkmmjdlpoaa
open Go.RowKit

theorem at_cell {α : Type} {w w' : World} {A : Option Addr} {f : α → List Value} {l : List α} (h : At w A 1 f l) (hb : Below w.heap.size w w') {k : Nat} (hk : k < l.length) {u : Value} (hu : f l[k] = [u]) :
    ∃ b off, A = some ⟨b, off, none⟩ ∧ b < w.heap.size ∧ w'.cell? ⟨b, off + k, none⟩ = some u := by
  obtain ⟨b, off, e, hb', hc⟩ := h (by omega)
  refine ⟨b, off, e, hb', ?_⟩
  have h1 := hc k hk 0 u (by rw [hu]; rfl)
  rw [hb.cell (p := ⟨b, off + k, none⟩) hb']
  simpa using h1

theorem take_snoc_get {α : Type} (l : List α) (k : Nat) (h : k < l.length) : l.take (k + 1) = l.take k ++ [l[k]] := by
  rw [List.take_succ_eq_append_getElem h]

theorem take_eq_step {α : Type} {xs ys : List α} {k : Nat} (h : xs.take k = ys.take k) (hx : k < xs.length) (hy : k < ys.length) (he : xs[k] = ys[k]) : xs.take (k + 1) = ys.take (k + 1) := by
  rw [take_snoc_get xs k hx, take_snoc_get ys k hy, h, he]

theorem ne_row {xs ys : List Int} {k : Nat} {h1 : k < xs.length} {h2 : k < ys.length} {x y : Int} (hx : xs[k] = x) (hy : ys[k] = y) (hne : (x != y) = true) : decide (xs = ys) = false := by
  simp only [decide_eq_false_iff_not]
  intro h
  subst h
  rw [hx] at hy
  simp [hy] at hne
theorem eq_row {xs ys : List Int} {k : Nat} (h : xs.take k = ys.take k) (hl : xs.length = ys.length) (hk : xs.length ≤ k) : decide (xs = ys) = true := by
  rw [List.take_of_length_le hk, List.take_of_length_le (by omega)] at h
  simp [h]

set_option maxHeartbeats 1000000 in
theorem EqWords_any (A B : Option Addr) (ca cb : Nat) (xs ys : List Int) (w : World) (hx : xs.length ≤ 140737488355328) (_hy : ys.length ≤ 140737488355328) (hA : At w A 1 wordCells xs) (hB : At w B 1 wordCells ys) :
    Calls Try.prog 30 #[.slice A xs.length ca, .slice B ys.length cb] w fun e w' => e = .returned (.bool (decide (xs = ys))) ∧ Below w.heap.size w w' := by
  by_cases hl : xs.length = ys.length
  · have q0 : ((xs.length : Int) != (ys.length : Int)) = false := by simp [hl]
    have HL := Lib.hid hl
    clear hl
    go_enter Try.func30, Try.ntmps30
    go_wp2
    go_loopw [5] (fun i wr => ∃ k : Nat, k ≤ xs.length ∧ i = .int .i64 k ∧ xs.take k = ys.take k ∧ Below w.heap.size w wr) (fun i _ => xs.length - (intOf i).toNat)
    case atStart => exact ⟨0, Nat.zero_le _, rfl, rfl, Below.refl _ _⟩
    case round =>
      obtain ⟨k, hk, rfl, ht, hbw⟩ := hrel
      have HT := Lib.hid ht
      clear ht
      have HBW := Lib.hid hbw
      clear hbw
      by_cases hlt : k < xs.length
      · have hlty : k < ys.length := by have := HL.out; omega
        obtain ⟨ba, oa, rfl, hba, hca⟩ := at_cell hA HBW.out hlt rfl
        obtain ⟨bb, ob, rfl, hbb, hcb⟩ := at_cell hB HBW.out hlty rfl
        obtain ⟨x, hxk⟩ : ∃ x, xs[k] = x := ⟨_, rfl⟩
        obtain ⟨y, hyk⟩ : ∃ y, ys[k] = y := ⟨_, rfl⟩
        rw [hxk] at hca
        rw [hyk] at hcb
        have HXK := Lib.hid hxk
        have HYK := Lib.hid hyk
        clear hxk hyk
        have hki : (k : Int) < xs.length := by omega
        have hkj : (k : Int) < ys.length := by omega
        go_wp2_with fail
        refine wp_region_class (fun w' => Below (w.heap.size) (wr) w') (by kernel_rfl) (by kernel_rfl) (Below.refl _ _).drew ?_
        repeat (first
          | (refine wpLex_pass (by rfl) passes_plain ?_; (conv => arg 9; simp only [put_lit, put_lit_none, List.set]))
          | (refine wpLex_plain (by rfl) ?_
             apply Exists.intro
             refine ⟨?_, ?_⟩
             · intro w' hb
               have hsz := hb.size
               try simp at hsz
               have hcw := fun b o (h : b < w.heap.size) => hb.cell (p := ⟨b, o, none⟩) h
               have hfw := fun b o (h : b < w.heap.size) => hb.frozen (p := ⟨b, o, none⟩) h
               go_simp
               first
                 | exact ⟨rfl, hb⟩
                 | exact rfl
             conv => arg 9; simp only [put_lit, put_lit_none, List.set]))
        refine wpLex_nil ?_
        intro wq hbq
        have hsq := hbq.size
        try simp at hsq
        have hcq := fun b o (h : b < w.heap.size) => hbq.cell (p := ⟨b, o, none⟩) h
        have hfq := fun b o (h : b < w.heap.size) => hbq.frozen (p := ⟨b, o, none⟩) h
        have HBq := Lib.hid hbq
        clear hbq
        go_wp2
        · have hne : (x != y) = true := by assumption
          go_ret
          exact ⟨by rw [ne_row HXK.out HYK.out hne]; rfl, (by repeat' (first | (with_reducible exact Below.refl _ _) | (with_reducible (refine Below.setCell ?_ ?_ _)) | (with_reducible (refine Below.alloc ?_ ?_ _)) | (with_reducible (refine Below.drew ?_)) | (with_reducible (refine below_via ?_ HBq.out ?_)) | (with_reducible (refine below_via ?_ HBW.out ?_)) | omega | (simp; done) | (simp; omega)))⟩
        · have heq : (x != y) = false := by assumption
          go_roundw
          case rel => exact ⟨k + 1, by omega, by go_num, take_eq_step HT.out hlt hlty (by rw [HXK.out, HYK.out]; simpa using heq), (by repeat' (first | (with_reducible exact Below.refl _ _) | (with_reducible (refine Below.setCell ?_ ?_ _)) | (with_reducible (refine Below.alloc ?_ ?_ _)) | (with_reducible (refine Below.drew ?_)) | (with_reducible (refine below_via ?_ HBq.out ?_)) | (with_reducible (refine below_via ?_ HBW.out ?_)) | omega | (simp; done) | (simp; omega)))⟩
          case measure => simp [intOf]; omega
      · go_wp2
        go_ret
        exact ⟨by rw [eq_row HT.out HL.out (by omega)]; rfl, HBW.out⟩
  · have q0 : ((xs.length : Int) != (ys.length : Int)) = true := by simp; omega
    have HM := Lib.hid (show decide (xs = ys) = false by simp; intro h; exact hl (by rw [h]))
    clear hl
    go_enter Try.func30, Try.ntmps30
    go_wp2
    go_ret
    exact ⟨by rw [HM.out]; rfl, Below.refl _ _⟩

set_option maxHeartbeats 1000000 in
theorem CopyWords_any (A : Option Addr) (c : Nat) (xs : List Int) (w : World) (hx : xs.length ≤ 1000000) (hA : At w A 1 wordCells xs) :
    Calls Try.prog 41 #[.slice A xs.length c] w fun e w' => ∃ A' c', e = .returned (.slice A' xs.length c') ∧ Own w' w.heap.size wordT 1 wordCells xs A' c' ∧ Below w.heap.size w w' := by
  obtain ⟨i0, hi0, hz0, hz1, hz2⟩ := info_parts word_info
  go_enter Try.func41, Try.ntmps41
  go_wp2
  go_loopw [3, 4] (fun v i wr => ∃ k : Nat, k ≤ xs.length ∧ i = .int .i64 k ∧ wr.ownsRow w.heap.size wordT 1 v k ((xs.take k).flatMap wordCells) ∧ Below w.heap.size w wr) (fun _ i _ => xs.length - (intOf i).toNat)
  case atStart => exact ⟨0, Nat.zero_le _, rfl, World.ownsRow_nil _ _ _ _, Below.refl _ _⟩
  case round =>
    obtain ⟨k, hk, rfl, hown, hbw⟩ := hrel
    have HOWN := Lib.hid hown
    clear hown
    have HBW := Lib.hid hbw
    have hsz := hbw.size
    clear hbw
    by_cases hlt : k < xs.length
    · obtain ⟨ba, oa, rfl, hba, hca⟩ := at_cell hA HBW.out hlt rfl
      obtain ⟨x, hxk⟩ : ∃ x, xs[k] = x := ⟨_, rfl⟩
      rw [hxk] at hca
      have HXK := Lib.hid hxk
      clear hxk
      have hki : (k : Int) < xs.length := by omega
      go_wp2_with (at_builtin; refine wpList_push rfl (.tmp 11) (.tmp 16) _ rfl w.heap.size wordT i0 _ 1 8 Try.underlying22 hi0 hz0 hz1 hz2 rfl (by omega) _ k _ rfl HOWN.out #[.int .u64 x] rfl (by simp [Value.oneCell']) rfl (by simp only [maxLen]; omega) (by omega) hsz ?_; intro v5 w5 hown5 hb5; have HOWN5 := Lib.hid hown5; have HB5 := Lib.hid hb5; clear hown5 hb5)
      go_roundw
      case rel => exact ⟨k + 1, by omega, by go_num, by rw [take_snoc_get xs k hlt, List.flatMap_append, HXK.out]; exact HOWN5.out, (by repeat' (first | (with_reducible exact Below.refl _ _) | (with_reducible (refine Below.setCell ?_ ?_ _)) | (with_reducible (refine Below.alloc ?_ ?_ _)) | (with_reducible (refine Below.drew ?_)) | (with_reducible (refine below_via ?_ HB5.out ?_)) | (with_reducible (refine below_via ?_ HBW.out ?_)) | omega | (simp; done) | (simp; omega)))⟩
      case measure => simp [intOf]; omega
    · obtain ⟨A', c', rfl, ho⟩ := own_form (by have := HOWN.out; rw [List.take_of_length_le (by omega), show k = xs.length by omega] at this; exact this)
      go_wp2
      go_ret
      exact ⟨A', c', rfl, ho, HBW.out⟩

end Go.Proofs.Ytipepkmmjdlpoaa
