/-
  Read and Write where a place may not be; what a round of 'MemExact' leaves. Conditions: the lengths fit.
-/
import Derived.Test.YtipepkmmjdlpoaaMemR
import Derived.Laws.Closers25b
namespace Go.Proofs.Ytipepkmmjdlpoaa
open Go.RowKit

def memT2 : TypeId := 24
def actT : TypeId := 37

theorem read_no (A : Option Addr) (n c : Nat) (at_ size r : Int) (w : World) (hn : n ≤ 140737488355328) (hat : isInt at_) (hr : (if memOk n then placeOf n at_ size else 1) = r) (h0 : r ≠ 0) :
    Calls Try.prog 14 #[.agg #[.slice A n c], .int .i64 at_, .int .i64 size] w fun e w' => e = .returned (.tuple #[.int .u64 0, .int .i64 r]) ∧ Below w.heap.size w w' := by
  have HP := Lib.hid (fun W => memPlaced_any A n c at_ size W hn hat)
  rw [hr] at HP
  have q : (r != 0) = true := by simpa using h0
  clear hr h0
  go_enter Try.func14, Try.ntmps14
  go_wp2_with fail
  refine Calls.mono (HP.out _) ?_
  rintro e w1 ⟨rfl, hb1⟩
  have hs1 := hb1.size
  try simp at hs1
  have HB1 := Lib.hid hb1
  clear hb1
  go_wp2
  go_ret2
  exact ⟨rfl, (by repeat' (first | (with_reducible exact Below.refl _ _) | (with_reducible (refine Below.setCell ?_ ?_ _)) | (with_reducible (refine Below.alloc ?_ ?_ _)) | (with_reducible (refine Below.drew ?_)) | (with_reducible (refine below_via ?_ HB1.out ?_)) | omega | (simp; done) | (simp; omega)))⟩

theorem write_no (A : Option Addr) (n c : Nat) (at_ size v r : Int) (w : World) (hn : n ≤ 140737488355328) (hat : isInt at_) (hr : (if memOk n then placeOf n at_ size else 1) = r) (h0 : r ≠ 0) :
    Calls Try.prog 13 #[.agg #[.slice A n c], .int .i64 at_, .int .i64 size, .int .u64 v] w fun e w' => e = .returned (.tuple #[.agg #[.slice none 0 0], .int .i64 r]) ∧ Below w.heap.size w w' := by
  have HP := Lib.hid (fun W => memPlaced_any A n c at_ size W hn hat)
  rw [hr] at HP
  have q : (r != 0) = true := by simpa using h0
  clear hr h0
  go_enter Try.func13, Try.ntmps13
  go_wp2_with fail
  refine Calls.mono (HP.out _) ?_
  rintro e w1 ⟨rfl, hb1⟩
  have hs1 := hb1.size
  try simp at hs1
  have hc1_0 := fun o => (bcell hb1).1 (w.heap.size) o (by first | omega | (simp; done) | (simp; omega))
  have hf1_0 := fun o => (bcell hb1).2.1 (w.heap.size) o (by first | omega | (simp; done) | (simp; omega))
  have hz1_0 := (bcell hb1).2.2 (w.heap.size) (by first | omega | (simp; done) | (simp; omega))
  have hc1_1 := fun o => (bcell hb1).1 (w.heap.size + 1) o (by first | omega | (simp; done) | (simp; omega))
  have hf1_1 := fun o => (bcell hb1).2.1 (w.heap.size + 1) o (by first | omega | (simp; done) | (simp; omega))
  have hz1_1 := (bcell hb1).2.2 (w.heap.size + 1) (by first | omega | (simp; done) | (simp; omega))
  have HB1 := Lib.hid hb1
  clear hb1
  go_wp2
  refine bodyPost_ret (v := .tuple #[.agg #[.slice none 0 0], .int .i64 r]) (by simp [results, Try.results13, go_sem, *]) rfl ⟨rfl, ?_⟩
  repeat' (first | (with_reducible exact Below.refl _ _) | (with_reducible (refine Below.setCell ?_ ?_ _)) | (with_reducible (refine Below.alloc ?_ ?_ _)) | (with_reducible (refine Below.drew ?_)) | (with_reducible (refine below_via ?_ HB1.out ?_)) | omega | (simp; done) | (simp; omega))

theorem placeOf_zero {n : Nat} {at_ size : Int} (h : placeOf n at_ size = 0) : (size = 1 ∨ size = 2 ∨ size = 4 ∨ size = 8) ∧ 0 ≤ at_ ∧ at_ < 8 * n ∧ at_ % size = 0 := by
  unfold placeOf at h
  split at h
  · rename_i h1
    split at h
    · omega
    · split at h
      · rename_i h2 h3
        refine ⟨?_, by omega, by omega, h3⟩
        rcases size_cases size with hs | hs | hs | hs | ⟨hs, _⟩
        · exact .inl hs
        · exact .inr (.inl hs)
        · exact .inr (.inr (.inl hs))
        · exact .inr (.inr (.inr hs))
        · rw [hs] at h1; cases h1
      · omega
  · omega

/-- What a round's switch leaves: the error; the page's answer and the program's, the same words, the program's in memory of its own. -/
def Asked (n : Nat) (do_ : Int) (wb : World) (bx by_ : Nat) (e13 : Value) (e10 : Value) (wc : World) : Prop :=
  ∃ (bad : Int) (wl : List Int) (Aw Ax : Option Addr) (cw cx B : Nat), e10 = .int .i64 bad ∧ e13 = .int .i64 bad ∧ wl.length ≤ 3000 ∧
    wc.heap[by_]? = some (.cells #[.slice Aw wl.length cw] memT2 (0, 0)) ∧ wc.heap[bx]? = some (.cells #[.slice Ax wl.length cx] memT2 (0, 0)) ∧
    (∀ w', Below B wc w' → At w' Aw 1 wordCells wl) ∧ Own wc B wordT 1 wordCells wl Ax cx ∧ wb.heap.size ≤ B ∧ B ≤ wc.heap.size ∧ Below by_ wb wc ∧
    (bad = 0 → do_ ≠ 4 → do_ ≠ 7 → wl.length = n ∧ ∀ x ∈ wl, isWord x)

theorem asked_no {n : Nat} {do_ bad : Int} {wb wc : World} {bx by_ : Nat} (h1 : wc.heap[by_]? = some (.cells #[.slice none 0 0] memT2 (0, 0))) (h2 : wc.heap[bx]? = some (.cells #[.slice none 0 0] memT2 (0, 0)))
    (hs : wb.heap.size ≤ wc.heap.size) (hb : Below by_ wb wc) (h0 : bad ≠ 0 ∨ do_ = 4 ∨ do_ = 7) : Asked n do_ wb bx by_ (.int .i64 bad) (.int .i64 bad) wc :=
  ⟨bad, [], none, none, 0, 0, wb.heap.size, rfl, rfl, by simp, h1, h2, fun _ _ => At.nil, World.ownsRow_nil _ _ _ _, Nat.le_refl _, hs, hb, fun a b c => by omega⟩

theorem Own.at_below {α : Type} {w w' : World} {base B : Nat} {e : TypeId} {size : Nat} {f : α → List Value} {l : List α} {A : Option Addr} {c : Nat} (h : Own w base e size f l A c) (hf : ∀ a, (f a).length = size)
    (hA : ∀ p : Addr, A = some p → p.block < B) (hb : Below B w w') : At w' A size f l := fun hl => by
  obtain ⟨g, rfl, h1, h2, _⟩ := h.spot hl
  exact Own.at_ (base := base) (e := e) (c := c) (h.keep fun k _ _ hk => by have := hk _ rfl; subst this; exact hb.block _ (hA _ rfl)) hf hl

theorem asked_yes {n : Nat} {do_ : Int} {wb wc : World} {bx by_ : Nat} {wl : List Int} {Aw Ax : Option Addr} {cw cx B Bw : Nat} (h1 : wc.heap[by_]? = some (.cells #[.slice Aw n cw] memT2 (0, 0))) (h2 : wc.heap[bx]? = some (.cells #[.slice Ax n cx] memT2 (0, 0)))
    (hw : Own wc Bw wordT 1 wordCells wl Aw cw) (hAw : ∀ p : Addr, Aw = some p → p.block < B) (ho : Own wc B wordT 1 wordCells wl Ax cx) (hB1 : wb.heap.size ≤ B) (hB2 : B ≤ wc.heap.size) (hb : Below by_ wb wc) (hl : wl.length = n) (hn : n ≤ 3000)
    (hok : ∀ x ∈ wl, isWord x) : Asked n do_ wb bx by_ (.int .i64 0) (.int .i64 0) wc := by
  subst hl
  exact ⟨0, wl, Aw, Ax, cw, cx, B, rfl, rfl, hn, h1, h2, fun _ hb' => hw.at_below word_len hAw hb', ho, hB1, hB2, hb, fun _ _ _ => ⟨rfl, hok⟩⟩

theorem putOf_word (x shift mask v : Int) : isWord (putOf x shift mask v) := ⟨bits_lo_u64 _ _ _, bits_hi_u64 _ _ _⟩
theorem mem_set_of {l : List Int} {i : Nat} {y : Int} {P : Int → Prop} (h : ∀ x ∈ l, P x) (hy : P y) : ∀ x ∈ l.set i y, P x := by
  intro x hx
  rcases List.mem_or_eq_of_mem_set hx with h1 | h1
  · exact h x h1
  · rw [h1]; exact hy
theorem mem_setAll_of {P : Int → Prop} : ∀ (xs l : List Int) (o : Nat), (∀ x ∈ l, P x) → (∀ x ∈ xs, P x) → ∀ x ∈ setAll l o xs, P x
  | [], _, _, h, _ => h
  | y :: xs, l, o, h, hy => mem_setAll_of xs (l.set o y) (o + 1) (mem_set_of h (hy y (List.mem_cons_self ..))) (fun x hx => hy x (List.mem_cons_of_mem _ hx))
theorem zeroed_words (l : List Int) : ∀ ws : List Int, (∀ x ∈ ws, isWord x) → ∀ x ∈ zeroed ws l, isWord x := by
  induction l with
  | nil => intro ws h; exact h
  | cons y l ih => intro ws h; exact ih _ (mem_setAll_of _ _ _ h (fun x hx => by have := List.eq_of_mem_replicate hx; subst this; exact ⟨by decide, by decide⟩))
theorem copied_words {ws : List Int} {f t : Nat} (h : ∀ x ∈ ws, isWord x) : ∀ x ∈ copied ws f t, isWord x :=
  mem_setAll_of _ _ _ h (fun x hx => h x (List.mem_of_mem_drop (List.mem_of_mem_take hx)))
theorem copied_len (ws : List Int) (f t : Nat) : (copied ws f t).length = ws.length := setAll_len _ _ _

/-- The words that a place is in. -/
theorem place_word {ws : List Int} {at_ size : Int} (h : placeOf ws.length at_ size = 0) : ∃ (i : Nat) (hi : i < ws.length) (x : Int), at_ / 8 = i ∧ ws[i] = x := by
  obtain ⟨_, h1, h2, _⟩ := placeOf_zero h
  have hi : (at_ / 8).toNat < ws.length := by omega
  exact ⟨(at_ / 8).toNat, hi, _, by omega, rfl⟩

end Go.Proofs.Ytipepkmmjdlpoaa
