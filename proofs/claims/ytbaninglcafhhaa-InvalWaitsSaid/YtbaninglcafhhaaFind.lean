/-
  The library's search in a row of integers with a function of the program's; facts on searches. Conditions: the length fits.
-/
import Derived.Test.YtbaninglcafhhaaEntA
namespace Go.Proofs.Ytbaninglcafhhaa
open Go.RowKit

theorem at_cell {α : Type} {w w' : World} {A : Option Addr} {f : α → List Value} {l : List α} (h : At w A 1 f l) (hb : Below w.heap.size w w') {k : Nat} (hk : k < l.length) {u : Value} (hu : f l[k] = [u]) :
    ∃ b off, A = some ⟨b, off, none⟩ ∧ b < w.heap.size ∧ w'.cell? ⟨b, off + k, none⟩ = some u := by
  obtain ⟨b, off, e, hb', hc⟩ := h (by omega)
  refine ⟨b, off, e, hb', ?_⟩
  rw [hb.cell (p := ⟨b, off + k, none⟩) hb']
  have := hc k hk 0 u (by rw [hu]; rfl)
  simpa using this
theorem at_cells {α : Type} {w w' : World} {A : Option Addr} {size : Nat} {f : α → List Value} {l : List α} (h : At w A size f l) (hb : Below w.heap.size w w') {k : Nat} (hk : k < l.length) :
    ∃ b off, A = some ⟨b, off, none⟩ ∧ b < w.heap.size ∧ ∀ j u, (f l[k])[j]? = some u → w'.cell? ⟨b, off + k * size + j, none⟩ = some u := by
  obtain ⟨b, off, e, hb', hc⟩ := h (by omega)
  exact ⟨b, off, e, hb', fun j u hu => (hb.cell (p := ⟨b, off + k * size + j, none⟩) hb').trans (hc k hk j u hu)⟩
theorem take_snoc_get {α : Type} (l : List α) (k : Nat) (h : k < l.length) : l.take (k + 1) = l.take k ++ [l[k]] := List.take_succ_eq_append_getElem h
theorem ret_bool {a b : Bool} (h : a = b) : Ending.returned (.bool a) = .returned (.bool b) := by rw [h]
/-- A row that was made whole. -/
theorem at_lit {α : Type} {f : α → List Value} {size : Nat} {t : TypeId} (W : World) (l : List α) (b : Nat) (cs : Array Value) (hf : ∀ a, (f a).length = size) (hb : b = W.heap.size) (hc : cs = (l.flatMap f).toArray) : At (W.alloc (.cells cs t)) (some ⟨b, 0, none⟩) size f l := by
  subst hb hc
  intro _
  refine ⟨_, 0, rfl, by simp, fun i hi j u hu => ?_⟩
  have hj : j < size := by rw [← hf l[i]]; exact (List.getElem?_eq_some_iff.1 hu).1
  rw [cell_of_row _ _ _ _ _ _ (heap_new W _), Nat.zero_add]
  have := flat_get f size hf l i j hi hj
  simp only [List.getElem?_toArray]
  rw [this]; exact hu
theorem At.pre {α : Type} {w : World} {A : Option Addr} {size : Nat} {f : α → List Value} {l : List α} (h : At w A size f l) (k : Nat) : At w A size f (l.take k) := fun hk => by
  have hkl : 0 < l.length := by
    rcases Nat.eq_zero_or_pos l.length with h0 | h0
    · rw [List.length_take, h0] at hk; omega
    · exact h0
  obtain ⟨b, off, e, hb', hc⟩ := h hkl
  refine ⟨b, off, e, hb', fun i hi j u hu => ?_⟩
  have hi' : i < l.length := by simp at hi; omega
  refine hc i hi' j u ?_
  rw [List.getElem_take] at hu
  exact hu

/-- The place of the first one that is asked for; -1: there is none. -/
def idx {α : Type} (p : α → Bool) (l : List α) : Int := if l.any p then (l.findIdx p : Int) else -1

theorem any_take_step {α : Type} {p : α → Bool} {l : List α} {k : Nat} (h : (l.take k).any p = false) (hk : k < l.length) (hp : p l[k] = false) : (l.take (k + 1)).any p = false := by
  rw [take_snoc_get l k hk, List.any_append, h]; simp [hp]
theorem idx_yes {α : Type} {p : α → Bool} {l : List α} {k : Nat} (h : (l.take k).any p = false) (hk : k < l.length) (hp : p l[k] = true) : idx p l = k := by
  have ha : l.any p = true := List.any_eq_true.2 ⟨_, List.getElem_mem hk, hp⟩
  unfold idx
  rw [if_pos ha]
  have : l.findIdx p = k := by
    rw [List.findIdx_eq hk]
    refine ⟨hp, fun j hj => ?_⟩
    have := List.any_eq_false.1 h l[j] (by rw [List.mem_take_iff_getElem]; exact ⟨j, by omega, rfl⟩)
    simpa using this
  rw [this]
theorem idx_no {α : Type} {p : α → Bool} {l : List α} {k : Nat} (h : (l.take k).any p = false) (hk : l.length ≤ k) : idx p l = -1 := by
  rw [List.take_of_length_le hk] at h
  unfold idx
  rw [if_neg (by rw [h]; decide)]
theorem idx_ge {α : Type} (p : α → Bool) (l : List α) : decide (0 ≤ idx p l) = l.any p := by
  unfold idx
  split
  · rename_i h; simp [h]
  · rename_i h; simp only [Bool.not_eq_true] at h; rw [h]; decide
/-- What a search yields: none, or the first place. -/
theorem idx_cases {α : Type} (p : α → Bool) (l : List α) : (idx p l = -1 ∧ l.any p = false) ∨ ∃ (k : Nat) (h : k < l.length), idx p l = k ∧ p l[k] = true ∧ (l.take k).any p = false := by
  cases ha : l.any p
  · left
    exact ⟨by unfold idx; rw [if_neg (by rw [ha]; decide)], rfl⟩
  · right
    have hk : l.findIdx p < l.length := List.findIdx_lt_length_of_exists (List.any_eq_true.1 ha)
    refine ⟨l.findIdx p, hk, by unfold idx; rw [if_pos ha], List.findIdx_getElem, ?_⟩
    rw [List.any_eq_false]
    intro x hx
    obtain ⟨j, hj, rfl⟩ := List.mem_take_iff_getElem.1 hx
    have := List.not_of_lt_findIdx (p := p) (xs := l) (show j < l.findIdx p by omega)
    simpa using this

set_option maxHeartbeats 1000000 in
theorem IndexFunc_int (K : Nat) (cap : Value) (p : Int → Bool) (L : Option Addr) (cl : Nat) (l : List Int) (w : World) (hl : l.length ≤ 140737488355328) (hL : At w L 1 intCells l)
    (hK : ∀ (v : Value) (W : World), Sem.run Try.prog (callFunc K #[v, cap]) W = .ok (.enter K #[v, cap]) W)
    (hp : ∀ (W : World) (x : Int), Below w.heap.size w W → Calls Try.prog K #[.int .i64 x, cap] W fun e w' => e = .returned (.bool (p x)) ∧ Below W.heap.size W w') :
    Calls Try.prog 102 #[.slice L l.length cl, .func (.func K) #[] #[cap]] w fun e w' => e = .returned (.int .i64 (idx p l)) ∧ Below w.heap.size w w' := by
  have HP := Lib.hid hp
  clear hp
  go_enter Try.func102, Try.ntmps102
  go_wp2
  go_loopw [8] (fun i wr => ∃ k : Nat, k ≤ l.length ∧ i = .int .i64 k ∧ (l.take k).any p = false ∧ Below w.heap.size w wr) (fun i _ => l.length - (intOf i).toNat)
  case atStart => exact ⟨0, Nat.zero_le _, rfl, rfl, Below.refl _ _⟩
  case round =>
    obtain ⟨k, hk, rfl, ht, hbw⟩ := hrel
    have HT := Lib.hid ht
    clear ht
    have HBW := Lib.hid hbw
    have hsw := hbw.size
    clear hbw
    by_cases hlt : k < l.length
    · obtain ⟨ba, oa, rfl, hba, hca⟩ := at_cell hL HBW.out hlt rfl
      obtain ⟨x, hxk⟩ : ∃ x, l[k] = x := ⟨_, rfl⟩
      rw [hxk] at hca
      have HXK := Lib.hid hxk
      clear hxk
      have hki : (k : Int) < l.length := by omega
      go_wp2_with fail
      cases hg : p x
      · have HG := Lib.hid hg
        refine Calls.mono (HP.out _ _ HBW.out) ?_
        rintro e w1 ⟨rfl, hb1⟩
        have hs1 := hb1.size
        try simp at hs1
        have HB1 := Lib.hid hb1
        clear hb1
        rw [HG.out]
        clear hg
        go_wp2
        go_roundw
        case rel => exact ⟨k + 1, by omega, by go_num, any_take_step HT.out hlt (by rw [HXK.out]; exact HG.out), (by repeat' (first | (with_reducible exact Below.refl _ _) | (with_reducible (refine Below.setCell ?_ ?_ _)) | (with_reducible (refine Below.alloc ?_ ?_ _)) | (with_reducible (refine Below.drew ?_)) | (with_reducible (refine below_via ?_ HB1.out ?_)) | (with_reducible (refine below_via ?_ HBW.out ?_)) | omega | (simp; done) | (simp; omega)))⟩
        case measure => simp [intOf]; omega
      · have HG := Lib.hid hg
        refine Calls.mono (HP.out _ _ HBW.out) ?_
        rintro e w1 ⟨rfl, hb1⟩
        have hs1 := hb1.size
        try simp at hs1
        have HB1 := Lib.hid hb1
        clear hb1
        rw [HG.out]
        clear hg
        go_wp2
        go_ret
        exact ⟨by rw [idx_yes HT.out hlt (by rw [HXK.out]; exact HG.out)]; rfl, (by repeat' (first | (with_reducible exact Below.refl _ _) | (with_reducible (refine Below.setCell ?_ ?_ _)) | (with_reducible (refine Below.alloc ?_ ?_ _)) | (with_reducible (refine Below.drew ?_)) | (with_reducible (refine below_via ?_ HB1.out ?_)) | (with_reducible (refine below_via ?_ HBW.out ?_)) | omega | (simp; done) | (simp; omega)))⟩
    · go_wp2
      go_ret
      exact ⟨by rw [idx_no HT.out (by omega)]; rfl, HBW.out⟩

set_option maxHeartbeats 1000000 in
theorem ContainsFunc_int (K : Nat) (cap : Value) (p : Int → Bool) (L : Option Addr) (cl : Nat) (l : List Int) (w : World) (hl : l.length ≤ 140737488355328) (hL : At w L 1 intCells l)
    (hK : ∀ (v : Value) (W : World), Sem.run Try.prog (callFunc K #[v, cap]) W = .ok (.enter K #[v, cap]) W)
    (hp : ∀ (W : World) (x : Int), Below w.heap.size w W → Calls Try.prog K #[.int .i64 x, cap] W fun e w' => e = .returned (.bool (p x)) ∧ Below W.heap.size W w') :
    Calls Try.prog 99 #[.slice L l.length cl, .func (.func K) #[] #[cap]] w fun e w' => e = .returned (.bool (l.any p)) ∧ Below w.heap.size w w' := by
  have HI := Lib.hid (IndexFunc_int K cap p L cl l w hl hL hK hp)
  have HG := Lib.hid (idx_ge p l)
  clear hp hL hK
  go_enter Try.func99, Try.ntmps99
  go_wp2_with fail
  refine Calls.mono (HI.out) ?_
  rintro e w1 ⟨rfl, hb1⟩
  have hs1 := hb1.size
  try simp at hs1
  have HB1 := Lib.hid hb1
  clear hb1
  generalize idx p l = ix at *
  go_wp2
  go_ret
  exact ⟨by rw [← HG.out]; rfl, HB1.out⟩

/-- One bound, in the program's own words. -/
theorem win1_any (g : Nat) (most f : Int) (w : World) (hc : w.cell? ⟨g, 0, none⟩ = some (.int .i64 most)) :
    Calls Try.prog 100 #[.int .i64 f, .pointer (some ⟨g, 0, none⟩)] w fun e w' => e = .returned (.bool (!numOk f most)) ∧ Below w.heap.size w w' := by
  unfold numOk
  by_cases h0 : f < 0
  · have q0 : decide (0 ≤ f) = false := by simp; omega
    have q1 : decide (f < 0) = true := by simp; omega
    rw [q0]
    go_enter Try.func100, Try.ntmps100
    go_wp2
    go_ret
    exact ⟨rfl, Below.refl _ _⟩
  · have q0 : decide (0 ≤ f) = true := by simp; omega
    have q1 : decide (f < 0) = false := by simp; omega
    have q2 : decide (most < f) = !decide (f ≤ most) := by rw [Bool.eq_iff_iff]; simp
    have Q2 := Lib.hid q2
    rw [q0]
    clear q2 h0
    go_enter Try.func100, Try.ntmps100
    go_wp2
    go_ret
    exact ⟨by rw [Bool.true_and, ← Q2.out]; rfl, Below.refl _ _⟩

set_option maxHeartbeats 1000000 in
theorem win_any (most : Int) (L : Option Addr) (cl : Nat) (l : List Int) (w : World) (hl : l.length ≤ 140737488355328) (hL : At w L 1 intCells l) :
    Calls Try.prog 80 #[.int .i64 most, .slice L l.length cl] w fun e w' => e = .returned (.bool (l.all (fun f => numOk f most))) ∧ Below w.heap.size w w' := by
  have HC := Lib.hid (fun W (hb : Below w.heap.size w W) (g : Nat) (hg : ∀ W', Below W.heap.size W W' → W'.cell? ⟨g, 0, none⟩ = some (.int .i64 most)) =>
    ContainsFunc_int 100 (.pointer (some ⟨g, 0, none⟩)) (fun f => !numOk f most) L cl l W hl (hL.below hb) (fun _ _ => by kernel_rfl) (fun W' x hb' => win1_any g most x W' (hg W' hb')))
  clear hL
  have HN := Lib.hid (show (l.any fun f => !numOk f most) = !(l.all fun f => numOk f most) by rw [List.not_all_eq_any_not])
  go_enter Try.func80, Try.ntmps80
  go_wp2_with fail
  refine Calls.mono (HC.out _ ((Below.refl _ _).alloc (Nat.le_refl _) _) w.heap.size (fun W' hb => (hb.cell (by simp)).trans (by go_simp))) ?_
  rintro e w1 ⟨rfl, hb1⟩
  have hs1 := hb1.size
  try simp at hs1
  have HB1 := Lib.hid hb1
  clear hb1
  rw [HN.out]
  go_wp2
  go_ret
  exact ⟨by simp, (by repeat' (first | (with_reducible exact Below.refl _ _) | (with_reducible (refine Below.setCell ?_ ?_ _)) | (with_reducible (refine Below.alloc ?_ ?_ _)) | (with_reducible (refine Below.drew ?_)) | (with_reducible (refine below_via ?_ HB1.out ?_)) | omega | (simp; done) | (simp; omega)))⟩

/-- One, two, three numbers that were just put in a row. -/
theorem win1 (most a : Int) (W : World) (b : Nat) (t : TypeId) (hb : b = W.heap.size) :
    Calls Try.prog 80 #[.int .i64 most, .slice (some ⟨b, 0, none⟩) 1 1] (W.alloc (.cells #[.int .i64 a] t)) fun e w' => e = .returned (.bool (numOk a most)) ∧ Below (W.alloc (.cells #[.int .i64 a] t)).heap.size (W.alloc (.cells #[.int .i64 a] t)) w' := by
  refine (win_any most (some ⟨b, 0, none⟩) 1 [a] _ (by simp) (at_lit W [a] b _ (fun _ => rfl) hb rfl)).mono ?_
  rintro e w' ⟨rfl, h⟩
  exact ⟨ret_bool (by simp), h⟩
theorem win2 (most a1 a2 : Int) (W : World) (b : Nat) (t : TypeId) (hb : b = W.heap.size) :
    Calls Try.prog 80 #[.int .i64 most, .slice (some ⟨b, 0, none⟩) 2 2] (W.alloc (.cells #[.int .i64 a1, .int .i64 a2] t)) fun e w' => e = .returned (.bool (numOk a1 most && numOk a2 most)) ∧ Below (W.alloc (.cells #[.int .i64 a1, .int .i64 a2] t)).heap.size (W.alloc (.cells #[.int .i64 a1, .int .i64 a2] t)) w' := by
  refine (win_any most (some ⟨b, 0, none⟩) 2 [a1, a2] _ (by simp) (at_lit W [a1, a2] b _ (fun _ => rfl) hb rfl)).mono ?_
  rintro e w' ⟨rfl, h⟩
  exact ⟨ret_bool (by simp), h⟩
theorem win3 (most a1 a2 a3 : Int) (W : World) (b : Nat) (t : TypeId) (hb : b = W.heap.size) :
    Calls Try.prog 80 #[.int .i64 most, .slice (some ⟨b, 0, none⟩) 3 3] (W.alloc (.cells #[.int .i64 a1, .int .i64 a2, .int .i64 a3] t)) fun e w' => e = .returned (.bool (numOk a1 most && (numOk a2 most && numOk a3 most))) ∧ Below (W.alloc (.cells #[.int .i64 a1, .int .i64 a2, .int .i64 a3] t)).heap.size (W.alloc (.cells #[.int .i64 a1, .int .i64 a2, .int .i64 a3] t)) w' := by
  refine (win_any most (some ⟨b, 0, none⟩) 3 [a1, a2, a3] _ (by simp) (at_lit W [a1, a2, a3] b _ (fun _ => rfl) hb rfl)).mono ?_
  rintro e w' ⟨rfl, h⟩
  exact ⟨ret_bool (by simp), h⟩

end Go.Proofs.Ytbaninglcafhhaa
