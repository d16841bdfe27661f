/-
  Rows of numbers: whether they are the same, what they are written over with. Conditions: the lengths fit.
-/
import Derived.Test.YtddbndmbcdeggaaMemA
import Derived.Test.YtddbndmbcdeggaaOne
namespace Go.Proofs.Ytddbndmbcdeggaa
open Go.RowKit

theorem int_info : (Try.prog.info? intT).map (fun i => (i.zero, i.size, i.bytes)) = some (some (.int .i64 0), 1, 8) := by kernel_rfl
theorem int_ones (x : Int) : ∀ u ∈ intCells x, u.oneCell' = true := by
  intro u hu
  simp only [intCells, List.mem_cons, List.not_mem_nil, or_false] at hu
  subst hu
  rfl

theorem Own.keep2 {α : Type} {w w' : World} {base : Nat} {e : TypeId} {size : Nat} {f : α → List Value} {l : List α} {A : Option Addr} {c : Nat} (h : Own w base e size f l A c) (hk : ∀ p : Addr, A = some p → w'.heap[p.block]? = w.heap[p.block]?) : Own w' base e size f l A c := by
  refine ⟨h.1, ?_⟩
  rcases h.2 with ⟨h1, h2⟩ | ⟨g, cap, cur, h1, h2, h3, h4⟩
  · exact .inl ⟨h1, h2⟩
  · have hA : A = some ⟨g, 0, none⟩ := by injection h1
    exact .inr ⟨g, cap, cur, h1, h2, (hk _ hA).trans h3, h4⟩

set_option maxHeartbeats 1000000 in
theorem EqNumbers_any (A B : Option Addr) (ca cb : Nat) (xs ys : List Int) (w : World) (hx : xs.length ≤ 140737488355328) (_hy : ys.length ≤ 140737488355328) (hA : At w A 1 intCells xs) (hB : At w B 1 intCells ys) :
    Calls Try.prog 25 #[.slice A xs.length ca, .slice B ys.length cb] w fun e w' => e = .returned (.bool (decide (xs = ys))) ∧ Below w.heap.size w w' := by
  by_cases hl : xs.length = ys.length
  · have q0 : ((xs.length : Int) != (ys.length : Int)) = false := by simp [hl]
    have HL := Lib.hid hl
    clear hl
    go_enter Try.func25, Try.ntmps25
    go_wp2
    go_loopw [5] (fun i wr => ∃ k : Nat, k ≤ xs.length ∧ i = .int .i64 k ∧ xs.take k = ys.take k ∧ Below w.heap.size w wr) (fun i _ => xs.length - (intOf i).toNat)
    case atStart => exact ⟨0, Nat.zero_le _, rfl, rfl, Below.refl _ _⟩
    case round =>
      obtain ⟨k, hk, rfl, ht, hbw⟩ := hrel
      have HT := Lib.hid ht
      clear ht
      have HBW := Lib.hid hbw
      clear hbw
      by_cases hlt : k < xs.length
      · have hlty : k < ys.length := by have := HL.out; omega
        obtain ⟨ba, oa, rfl, hba, hca⟩ := at_cell hA HBW.out hlt rfl
        obtain ⟨bb, ob, rfl, hbb, hcb⟩ := at_cell hB HBW.out hlty rfl
        obtain ⟨x, hxk⟩ : ∃ x, xs[k] = x := ⟨_, rfl⟩
        obtain ⟨y, hyk⟩ : ∃ y, ys[k] = y := ⟨_, rfl⟩
        rw [hxk] at hca
        rw [hyk] at hcb
        have HXK := Lib.hid hxk
        have HYK := Lib.hid hyk
        clear hxk hyk
        have hki : (k : Int) < xs.length := by omega
        have hkj : (k : Int) < ys.length := by omega
        go_wp2_with fail
        refine wp_region_class (fun w' => Below (w.heap.size) (wr) w') (by kernel_rfl) (by kernel_rfl) (Below.refl _ _).drew ?_
        repeat (first
          | (refine wpLex_pass (by rfl) passes_plain ?_; (conv => arg 9; simp only [put_lit, put_lit_none, List.set]))
          | (refine wpLex_plain (by rfl) ?_
             apply Exists.intro
             refine ⟨?_, ?_⟩
             · intro w' hb
               have hsz := hb.size
               try simp at hsz
               have hcw := fun b o (h : b < w.heap.size) => hb.cell (p := ⟨b, o, none⟩) h
               have hfw := fun b o (h : b < w.heap.size) => hb.frozen (p := ⟨b, o, none⟩) h
               go_simp
               first
                 | exact ⟨rfl, hb⟩
                 | exact rfl
             conv => arg 9; simp only [put_lit, put_lit_none, List.set]))
        refine wpLex_nil ?_
        intro wq hbq
        have hsq := hbq.size
        try simp at hsq
        have hcq := fun b o (h : b < w.heap.size) => hbq.cell (p := ⟨b, o, none⟩) h
        have hfq := fun b o (h : b < w.heap.size) => hbq.frozen (p := ⟨b, o, none⟩) h
        have HBq := Lib.hid hbq
        clear hbq
        go_wp2
        · have hne : (x != y) = true := by assumption
          go_ret
          exact ⟨by rw [ne_row HXK.out HYK.out hne]; rfl, (by repeat' (first | (with_reducible exact Below.refl _ _) | (with_reducible (refine Below.setCell ?_ ?_ _)) | (with_reducible (refine Below.alloc ?_ ?_ _)) | (with_reducible (refine Below.drew ?_)) | (with_reducible (refine below_via ?_ HBq.out ?_)) | (with_reducible (refine below_via ?_ HBW.out ?_)) | omega | (simp; done) | (simp; omega)))⟩
        · have heq : (x != y) = false := by assumption
          go_roundw
          case rel => exact ⟨k + 1, by omega, by go_num, take_eq_step HT.out hlt hlty (by rw [HXK.out, HYK.out]; simpa using heq), (by repeat' (first | (with_reducible exact Below.refl _ _) | (with_reducible (refine Below.setCell ?_ ?_ _)) | (with_reducible (refine Below.alloc ?_ ?_ _)) | (with_reducible (refine Below.drew ?_)) | (with_reducible (refine below_via ?_ HBq.out ?_)) | (with_reducible (refine below_via ?_ HBW.out ?_)) | omega | (simp; done) | (simp; omega)))⟩
          case measure => simp [intOf]; omega
      · go_wp2
        go_ret
        exact ⟨by rw [eq_row HT.out HL.out (by omega)]; rfl, HBW.out⟩
  · have q0 : ((xs.length : Int) != (ys.length : Int)) = true := by simp; omega
    have HM := Lib.hid (show decide (xs = ys) = false by simp; intro h; exact hl (by rw [h]))
    clear hl
    go_enter Try.func25, Try.ntmps25
    go_wp2
    go_ret
    exact ⟨by rw [HM.out]; rfl, Below.refl _ _⟩

set_option maxHeartbeats 1000000 in
theorem Numbers_any (A : Option Addr) (c base : Nat) (xs : List Int) (w : World) (hn : xs.length ≤ 1000000) (hb : base ≤ w.heap.size) (hA : Own w base intT 1 intCells xs A c) :
    Calls Try.prog 26 #[.slice A xs.length c] w fun e w' => e = .returned (.tuple #[]) ∧ Below base w w' := by
  obtain ⟨i0, hi0, hz0, hz1, hz2⟩ := info_parts int_info
  have HA := Lib.hid hA
  clear hA
  go_enter Try.func26, Try.ntmps26
  go_wp2
  go_loopw [2] (fun i wr => ∃ (k : Nat) (ys : List Int), k ≤ xs.length ∧ i = .int .i64 k ∧ ys.length = xs.length ∧ Own wr base intT 1 intCells ys A c ∧ Below base w wr) (fun i _ => xs.length - (intOf i).toNat)
  case atStart => exact ⟨0, xs, Nat.zero_le _, rfl, rfl, HA.out, Below.refl _ _⟩
  case round =>
    obtain ⟨k, ys, hk, rfl, hlen, hown, hbw⟩ := hrel
    have HLEN := Lib.hid hlen
    have HOWN := Lib.hid hown
    have HBW := Lib.hid hbw
    have hsw := hbw.size
    clear hlen hown hbw
    by_cases hlt : k < xs.length
    · have hlt2 : k < ys.length := by have := HLEN.out; omega
      obtain ⟨g, rfl, hg1, hg2, hg3⟩ := HOWN.out.spot (by omega)
      have hgf := hg3 k
      have HC := Lib.hid (HOWN.out.cell int_len hlt2 (j := 0) rfl)
      obtain ⟨y, hy⟩ : ∃ y, ys[k] = y := ⟨_, rfl⟩
      have hc : wr.cell? ⟨g, k, none⟩ = some (.int .i64 y) := by have := HC.out; rw [hy] at this; simpa using this
      have hki : (k : Int) < xs.length := by omega
      clear hy hg3
      go_wp2
      go_roundw
      case rel => exact ⟨k + 1, _, by omega, by go_num, by rw [List.length_set]; exact HLEN.out, HOWN.out.set1 int_len (i := k) _ _ rfl, HBW.out.setCell hg1 _⟩
      case measure => simp [intOf]; omega
    · go_wp2_with (at_builtin; refine wpList_push rfl (.tmp 12) (.tmp 13) _ rfl base intT i0 _ 1 8 Try.underlying25 hi0 hz0 hz1 hz2 rfl (by omega) _ xs.length _ rfl (by have := HOWN.out; unfold Own at this; rw [HLEN.out] at this; exact this) #[.int .i64 5] rfl (by simp [Value.oneCell']) rfl (by simp only [maxLen]; omega) (by omega) (by omega) ?_; intro v5 w5 hown5 hb5; have HB5 := Lib.hid hb5; clear hown5 hb5)
      go_end0
      exact ⟨rfl, (by repeat' (first | (with_reducible exact Below.refl _ _) | (with_reducible (refine Below.setCell ?_ ?_ _)) | (with_reducible (refine Below.alloc ?_ ?_ _)) | (with_reducible (refine Below.drew ?_)) | (with_reducible (refine below_via ?_ HB5.out ?_)) | (with_reducible (refine below_via ?_ HBW.out ?_)) | omega | (simp; done) | (simp; omega)))⟩

end Go.Proofs.Ytddbndmbcdeggaa
