/-
  Leaf contracts of package mem: whether a memory may be, how many frames it has, the place of some bytes. Conditions: the lengths fit an int.
  The masks of package mem and of the page: of one, two, four, eight bytes. Conditions: one of these sizes.
  Read and Get: some bytes of a memory. Conditions: the page's own, a place that may be.
  slices.Clone of words, and 'copied': the words in new memory. Conditions: the length fits.
  Write: a number's bytes at a place. Conditions: a place that may be, or none.
  The page's own answers on memories: whether one may be, its frames, the error of a place, equality. Conditions: the lengths fit an int.
  Loops over rows of numbers: equality, a copy in new memory, a place of a number, the write over. Conditions: the lengths fit.
  Memories: copied, the same, written over; whether frames are there. Conditions: the lengths fit.
  Whether a memory has frames: the library's search with a function of the program's. Conditions: the lengths fit.
  New, Frames, whether frames may be asked for, the words of a frame. Conditions: the lengths fit.
-/
import Derived.Test.YtddbndmbcdeggaaRows
import Derived.Test.YtddbndmbcdeggaaBase
import Derived.Test.YtddbndmbcdeggaaOrder
import Derived.Test.YtddbndmbcdeggaaCells
import Derived.Test.YtddbndmbcdeggaaSlice
import Derived.Deep.Cut
import Derived.Test.YtddbndmbcdeggaaOwn
namespace Go.Proofs.Ytddbndmbcdeggaa
open Go.RowKit

def memOk (n : Nat) : Bool := decide (0 < n) && (decide (n % 8 = 0) && decide (n / 8 ≤ 64))

theorem memMay_any (A : Option Addr) (n c : Nat) (w : World) (hn : n ≤ 9223372036854775807) :
    Calls Try.prog 56 #[.agg #[.slice A n c]] w fun e w' => e = .returned (.bool (memOk n)) ∧ Below w.heap.size w w' := by
  by_cases h0 : 0 < n
  · have q0 : decide ((0 : Int) < (n : Int)) = true := by simp; omega
    by_cases h1 : n % 8 = 0
    · have HM := Lib.hid (show memOk n = decide ((n : Int) / 8 ≤ 64) by simp [memOk, h0, h1]; omega)
      have q1 : ((n : Int) % 8 == 0) = true := by simp; omega
      go_enter Try.func56, Try.ntmps56
      go_wp2
      go_ret
      exact ⟨by rw [HM.out]; rfl, (Below.refl _ _).alloc (Nat.le_refl _) _⟩
    · have HM := Lib.hid (show memOk n = false by simp [memOk, h1])
      have q1 : ((n : Int) % 8 == 0) = false := by simp; omega
      go_enter Try.func56, Try.ntmps56
      go_wp2
      go_ret
      exact ⟨by rw [HM.out]; rfl, (Below.refl _ _).alloc (Nat.le_refl _) _⟩
  · have HM := Lib.hid (show memOk n = false by simp [memOk, h0])
    have q0 : decide ((0 : Int) < (n : Int)) = false := by simp; omega
    go_enter Try.func56, Try.ntmps56
    go_wp2
    go_ret
    exact ⟨by rw [HM.out]; rfl, (Below.refl _ _).alloc (Nat.le_refl _) _⟩

theorem memFrames_any (A : Option Addr) (n c : Nat) (w : World) (hn : n ≤ 9223372036854775807) :
    Calls Try.prog 71 #[.agg #[.slice A n c]] w fun e w' => e = .returned (.int .i64 ((n : Int) / 8)) ∧ Below w.heap.size w w' := by
  go_enter Try.func71, Try.ntmps71
  go_wp2
  go_ret
  exact ⟨rfl, (Below.refl _ _).alloc (Nat.le_refl _) _⟩

theorem memCheck_any (A : Option Addr) (n c : Nat) (w : World) (hn : n ≤ 9223372036854775807) (g : Bool) (hg : memOk n = g) :
    Calls Try.prog 38 #[.agg #[.slice A n c]] w fun e w' => e = .returned (.int .i64 (if g then 0 else 1)) ∧ Below w.heap.size w w' := by
  have HC := Lib.hid (fun W => memMay_any A n c W hn)
  rw [hg] at HC
  clear hg
  cases g
  all_goals
    go_enter Try.func38, Try.ntmps38
    go_wp2_with (go_at_call 56; refine (HC.out _).mono ?_; rintro e w1 ⟨rfl, hb1⟩; have hs1 := hb1.size; (try simp at hs1); have hc1_0 := fun o => (bcell hb1).1 (w.heap.size) o (by first | omega | (simp; done) | (simp; omega)); have hf1_0 := fun o => (bcell hb1).2.1 (w.heap.size) o (by first | omega | (simp; done) | (simp; omega)); have hz1_0 := (bcell hb1).2.2 (w.heap.size) (by first | omega | (simp; done) | (simp; omega)); have HB1 := Lib.hid hb1; clear hb1)
    go_ret
    refine ⟨rfl, ?_⟩
    repeat' (first | (with_reducible exact Below.refl _ _) | (with_reducible (refine Below.setCell ?_ ?_ _)) | (with_reducible (refine Below.alloc ?_ ?_ _)) | (with_reducible (refine Below.drew ?_)) | (with_reducible (refine below_via ?_ HB1.out ?_)) | omega | (simp; done) | (simp; omega))

/-- The error of a place. -/
def sizeOk (size : Int) : Bool := decide (size = 1) || (decide (size = 2) || (decide (size = 4) || decide (size = 8)))
def placeErr (g : Bool) (n : Nat) (at_ size : Int) : Int := if g && sizeOk size then (if at_ < 0 ∨ 8 * (n : Int) ≤ at_ then 2 else if at_ % size = 0 then 0 else 8) else 1

theorem size_cases (size : Int) : size = 1 ∨ size = 2 ∨ size = 4 ∨ size = 8 ∨ (sizeOk size = false ∧ size ≠ 1 ∧ size ≠ 2 ∧ size ≠ 4 ∧ size ≠ 8) := by
  by_cases h1 : size = 1
  · exact .inl h1
  by_cases h2 : size = 2
  · exact .inr (.inl h2)
  by_cases h4 : size = 4
  · exact .inr (.inr (.inl h4))
  by_cases h8 : size = 8
  · exact .inr (.inr (.inr (.inl h8)))
  · exact .inr (.inr (.inr (.inr ⟨by simp [sizeOk, h1, h2, h4, h8], h1, h2, h4, h8⟩)))

end Go.Proofs.Ytddbndmbcdeggaa

namespace Go.Proofs.Ytddbndmbcdeggaa
open Go.RowKit

def maskOf (size : Int) : Int := if size = 1 then 255 else if size = 2 then 65535 else if size = 4 then 4294967295 else 18446744073709551615

theorem mask_any (size : Int) (hs : size = 1 ∨ size = 2 ∨ size = 4 ∨ size = 8) (w : World) : Calls Try.prog 80 #[.int .i64 (8 * size)] w fun e w' => e = .returned (.int .u64 (maskOf size)) ∧ w' = w := by
  rcases hs with rfl | rfl | rfl | rfl
  all_goals
    go_enter Try.func80, Try.ntmps80
    go_wp2
    go_ret
    exact ⟨rfl, rfl⟩

end Go.Proofs.Ytddbndmbcdeggaa

namespace Go.Proofs.Ytddbndmbcdeggaa
open Go.RowKit


/-- Some bits of a word, as the machine has them. -/
def getOf (v at_ mask : Int) : Int := bits BinOp.and IntKind.u64 (v / 2 ^ at_.toNat) mask

set_option maxHeartbeats 1000000 in
theorem get_any (v at_ size : Int) (hv : 0 ≤ v ∧ v ≤ 18446744073709551615) (ha : 0 ≤ at_ ∧ at_ ≤ 63) (hs : size = 1 ∨ size = 2 ∨ size = 4 ∨ size = 8) (w : World) :
    Calls Try.prog 63 #[.int .u64 v, .int .i64 at_, .int .i64 (8 * size)] w fun e w' => e = .returned (.int .u64 (getOf v at_ (maskOf size))) ∧ Below w.heap.size w w' := by
  obtain ⟨ha0, ha1⟩ := ha
  obtain ⟨hv0, hv1⟩ := hv
  have HM := Lib.hid (fun W => mask_any size hs W)
  go_enter Try.func63, Try.ntmps63
  go_wp2
  refine wp_region_class (fun w' => w' = w.drew) (by kernel_rfl) (by kernel_rfl) rfl ?_
  refine wpLex_plain (by rfl) ?_
  apply Exists.intro
  refine ⟨?_, ?_⟩
  · intro w' hb
    subst hb
    go_simp
    exact rfl
  conv => arg 9; simp only [put_lit, put_lit_none, List.set]
  refine wpLex_plain (by rfl) ?_
  apply Exists.intro
  refine ⟨?_, ?_⟩
  · intro w' hb
    subst hb
    go_simp
    exact rfl
  conv => arg 9; simp only [put_lit, put_lit_none, List.set]
  refine wpLex_plain (by rfl) ?_
  apply Exists.intro
  refine ⟨?_, ?_⟩
  · intro w' hb
    subst hb
    go_simp
    exact rfl
  conv => arg 9; simp only [put_lit, put_lit_none, List.set]
  refine wpLex_plain (by rfl) ?_
  apply Exists.intro
  refine ⟨?_, ?_⟩
  · intro w' hb
    subst hb
    go_simp
    exact rfl
  conv => arg 9; simp only [put_lit, put_lit_none, List.set]
  refine wpLex_plain (by rfl) ?_
  apply Exists.intro
  refine ⟨?_, ?_⟩
  · intro w' hb
    subst hb
    go_simp
    refine (HM.out _).mono ?_
    rintro e w2 ⟨rfl, rfl⟩
    first | exact ⟨_, rfl, rfl, rfl⟩ | exact ⟨rfl, rfl⟩
  conv => arg 9; simp only [put_lit, put_lit_none, List.set]
  refine wpLex_plain (by rfl) ?_
  apply Exists.intro
  refine ⟨?_, ?_⟩
  · intro w' hb
    subst hb
    go_simp
    exact rfl
  conv => arg 9; simp only [put_lit, put_lit_none, List.set]
  refine wpLex_plain (by rfl) ?_
  apply Exists.intro
  refine ⟨?_, ?_⟩
  · intro w' hb
    subst hb
    go_simp
    exact rfl
  conv => arg 9; simp only [put_lit, put_lit_none, List.set]
  refine wpLex_nil ?_
  intro w' hw
  subst hw
  go_wp2
  go_ret
  exact ⟨rfl, (Below.refl _ _).drew⟩

/-- A contract that leaves the world, read as one that leaves what was there. -/
theorem quiet_same {P : Program} {f : FuncId} {args : Array Value} {w : World} {v : Value} (h : Calls P f args w fun e w' => e = .returned v ∧ w' = w) : Calls P f args w fun e w' => e = .returned v ∧ Below w.heap.size w w' :=
  h.mono fun _ _ ⟨he, hw⟩ => ⟨he, by rw [hw]; exact Below.refl _ _⟩

def memT : TypeId := 24

end Go.Proofs.Ytddbndmbcdeggaa

namespace Go.Proofs.Ytddbndmbcdeggaa
open Go.RowKit

def wordT : TypeId := 75
theorem word_len (x : Int) : (wordCells x).length = 1 := rfl
theorem word_info : (Try.prog.info? wordT).map (fun i => (i.zero, i.size, i.bytes)) = some (some (.int .u64 0), 1, 8) := by kernel_rfl
theorem word_one {l : List Int} (u : Value) (h : u ∈ l.flatMap wordCells) : u.oneCell' = true := by
  obtain ⟨a, _, ha⟩ := List.mem_flatMap.1 h
  simp only [wordCells, List.mem_cons, List.not_mem_nil, or_false] at ha
  subst ha
  rfl

theorem below_grown1 {w w' : World} {o : Obj} {n c : Nat} (h : (w.alloc o).grownBy w' (Value.slice (some ⟨w.heap.size, 0, none⟩) n c).ownBlock) : Below w.heap.size w w' :=
  ((Below.refl _ _).alloc (Nat.le_refl _) o).grown h (by simp) (fun k hk => by simp [Value.ownBlock] at hk; omega)

set_option maxHeartbeats 1000000 in
theorem clone_any (A : Option Addr) (c : Nat) (ws : List Int) (w : World) (hn : ws.length ≤ 1000000) (hA : At w A 1 wordCells ws) :
    Calls Try.prog 58 #[.slice A ws.length c] w fun e w' => ∃ A' c', e = .returned (.slice A' ws.length c') ∧ Own w' w.heap.size wordT 1 wordCells ws A' c' ∧ Below w.heap.size w w' := by
  cases A with
  | none =>
    have h0 : ws = [] := by
      cases ws with
      | nil => rfl
      | cons x l => obtain ⟨_, _, h, _⟩ := hA (by simp); cases h
    subst h0
    have he := fun (W : World) => Lib.run_eql_slice_nil (P := Try.prog) W _ _ none 0 c 0 0 Try.underlying22
    go_enter Try.func58, Try.ntmps58
    go_wp2
    go_ret
    exact ⟨_, _, rfl, World.ownsRow_nil _ _ _ _, Below.refl _ _⟩
  | some a =>
    obtain ⟨i0, hi0, hz0, hz1, hz2⟩ := info_parts word_info
    have HA := Lib.hid hA
    have HOWN := Lib.hid (World.ownsRow_lit (base := w.heap.size) (size := 1) (e := wordT) w #[] 0 (Nat.le_refl _) (by decide) rfl)
    have he := fun (W : World) => Lib.run_eql_slice_nil (P := Try.prog) W _ _ (some a) ws.length c 0 0 Try.underlying22
    simp only [Option.isNone] at he
    clear hA
    go_enter Try.func58, Try.ntmps58
    go_wp2_with (first
      | (at_builtin
         refine wpList_append_any _ rfl (.tmp 5) (.tmp 6) _ rfl w.heap.size wordT i0 _ 1 8 Try.underlying22 hi0 hz0 hz1 hz2 rfl (by omega) _ 0 _ rfl HOWN.out (w.alloc (.cells #[] wordT)).heap.size (some a) ws.length c (ws.flatMap wordCells) rfl
           ((HA.out.below ((Below.refl _ _).alloc (Nat.le_refl _) _)).reads word_len) (by intro u hu; exact word_one _ hu) (by simp only [maxLen]; omega) (by omega) (by simp) ?_
         intro v2 w2 hown2 hg2 hat2
         have HG2 := Lib.hid (below_grown1 hg2)
         have HO2 := Lib.hid hown2
         clear hown2 hg2 hat2))
    obtain ⟨A', c', rfl, ho⟩ := own_form (by simpa using HO2.out)
    go_ret
    exact ⟨A', c', rfl, ho, HG2.out⟩

def memoryT : TypeId := 97

end Go.Proofs.Ytddbndmbcdeggaa

namespace Go.Proofs.Ytddbndmbcdeggaa
open Go.RowKit

/-- A word with some bytes put at a place. -/
def putOf (x shift mask v : Int) : Int := bits .or .u64 (bits .andNot .u64 x (IntKind.u64.wrap (mask * 2 ^ shift.toNat))) (IntKind.u64.wrap (bits .and .u64 v mask * 2 ^ shift.toNat))

end Go.Proofs.Ytddbndmbcdeggaa

namespace Go.Proofs.Ytddbndmbcdeggaa
open Go.RowKit

def numB (n most : Int) : Bool := decide (0 ≤ n) && decide (n ≤ most)

theorem numB_yes {n most : Int} (h : numB n most = true) : 0 ≤ n ∧ n ≤ most := by simpa [numB] using h
theorem numB_no {n most : Int} (h : numB n most = false) : n < 0 ∨ most < n := by
  simp only [numB, Bool.and_eq_false_iff, decide_eq_false_iff_not] at h
  omega

theorem Num_any (n most : Int) (w : World) : Calls Try.prog 18 #[.int .i64 n, .int .i64 most] w fun e w' => e = .returned (.bool (numB n most)) ∧ w' = w := by
  by_cases h0 : 0 ≤ n
  · by_cases h1 : n ≤ most
    · have HM := Lib.hid (show numB n most = true by simp [numB, h0, h1])
      go_enter Try.func18, Try.ntmps18
      go_wp2
      go_ret
      exact ⟨by rw [HM.out]; rfl, rfl⟩
    · have HM := Lib.hid (show numB n most = false by simp [numB, h1])
      go_enter Try.func18, Try.ntmps18
      go_wp2
      go_ret
      exact ⟨by rw [HM.out]; rfl, rfl⟩
  · have HM := Lib.hid (show numB n most = false by simp [numB, h0])
    go_enter Try.func18, Try.ntmps18
    go_wp2
    go_ret
    exact ⟨by rw [HM.out]; rfl, rfl⟩

theorem memOk_spec (n : Nat) : memOk n = true ↔ 8 ≤ n ∧ n ≤ 512 ∧ n % 8 = 0 := by
  simp only [memOk, Bool.and_eq_true, decide_eq_true_eq]
  omega

theorem refMem_any (A : Option Addr) (n c : Nat) (w : World) (hn : n ≤ 9223372036854775807) :
    Calls Try.prog 15 #[.agg #[.slice A n c]] w fun e w' => e = .returned (.bool (memOk n)) ∧ Below w.heap.size w w' := by
  have hs := memOk_spec n
  by_cases h0 : 8 ≤ n
  · have q0 : decide ((8 : Int) ≤ (n : Int)) = true := by simp; omega
    by_cases h2 : n ≤ 512
    · have q2 : decide ((n : Int) ≤ 512) = true := by simp; omega
      by_cases h1 : n % 8 = 0
      · have HM := Lib.hid (show memOk n = true from hs.2 ⟨h0, h2, h1⟩)
        have q1 : ((n : Int) % 8 == 0) = true := by simp; omega
        clear hs h1
        go_enter Try.func15, Try.ntmps15
        go_wp2
        go_ret
        exact ⟨by rw [HM.out]; rfl, (Below.refl _ _).alloc (Nat.le_refl _) _⟩
      · have HM := Lib.hid (show memOk n = false by rw [Bool.eq_false_iff]; intro h; exact h1 (hs.1 h).2.2)
        have q1 : ((n : Int) % 8 == 0) = false := by simp; omega
        clear hs h1
        go_enter Try.func15, Try.ntmps15
        go_wp2
        go_ret
        exact ⟨by rw [HM.out]; rfl, (Below.refl _ _).alloc (Nat.le_refl _) _⟩
    · have HM := Lib.hid (show memOk n = false by rw [Bool.eq_false_iff]; intro h; exact h2 (hs.1 h).2.1)
      have q2 : decide ((n : Int) ≤ 512) = false := by simp; omega
      clear hs
      go_enter Try.func15, Try.ntmps15
      go_wp2
      go_ret
      exact ⟨by rw [HM.out]; rfl, (Below.refl _ _).alloc (Nat.le_refl _) _⟩
  · have HM := Lib.hid (show memOk n = false by rw [Bool.eq_false_iff]; intro h; exact h0 (hs.1 h).1)
    have q0 : decide ((8 : Int) ≤ (n : Int)) = false := by simp; omega
    clear hs
    go_enter Try.func15, Try.ntmps15
    go_wp2
    go_ret
    exact ⟨by rw [HM.out]; rfl, (Below.refl _ _).alloc (Nat.le_refl _) _⟩

theorem refFrames_any (A : Option Addr) (n c : Nat) (w : World) (hn : n ≤ 9223372036854775807) :
    Calls Try.prog 19 #[.agg #[.slice A n c]] w fun e w' => e = .returned (.int .i64 ((n : Int) / 8)) ∧ Below w.heap.size w w' := by
  go_enter Try.func19, Try.ntmps19
  go_wp2
  go_ret
  exact ⟨rfl, (Below.refl _ _).alloc (Nat.le_refl _) _⟩

/-- The page's error of a place of a memory that may be. -/
def placeOf (n : Nat) (at_ size : Int) : Int := if sizeOk size then (if at_ < 0 ∨ 8 * (n : Int) ≤ at_ then 2 else if at_ % size = 0 then 0 else 8) else 1

end Go.Proofs.Ytddbndmbcdeggaa

namespace Go.Proofs.Ytddbndmbcdeggaa
open Go.RowKit

theorem at_cell {α : Type} {w w' : World} {A : Option Addr} {f : α → List Value} {l : List α} (h : At w A 1 f l) (hb : Below w.heap.size w w') {k : Nat} (hk : k < l.length) {u : Value} (hu : f l[k] = [u]) :
    ∃ b off, A = some ⟨b, off, none⟩ ∧ b < w.heap.size ∧ w'.cell? ⟨b, off + k, none⟩ = some u := by
  obtain ⟨b, off, e, hb', hc⟩ := h (by omega)
  refine ⟨b, off, e, hb', ?_⟩
  have h1 := hc k hk 0 u (by rw [hu]; rfl)
  rw [hb.cell (p := ⟨b, off + k, none⟩) hb']
  simpa using h1

theorem take_snoc_get {α : Type} (l : List α) (k : Nat) (h : k < l.length) : l.take (k + 1) = l.take k ++ [l[k]] := by
  rw [List.take_succ_eq_append_getElem h]

theorem take_eq_step {α : Type} {xs ys : List α} {k : Nat} (h : xs.take k = ys.take k) (hx : k < xs.length) (hy : k < ys.length) (he : xs[k] = ys[k]) : xs.take (k + 1) = ys.take (k + 1) := by
  rw [take_snoc_get xs k hx, take_snoc_get ys k hy, h, he]

theorem ne_row {xs ys : List Int} {k : Nat} {h1 : k < xs.length} {h2 : k < ys.length} {x y : Int} (hx : xs[k] = x) (hy : ys[k] = y) (hne : (x != y) = true) : decide (xs = ys) = false := by
  simp only [decide_eq_false_iff_not]
  intro h
  subst h
  rw [hx] at hy
  simp [hy] at hne
theorem eq_row {xs ys : List Int} {k : Nat} (h : xs.take k = ys.take k) (hl : xs.length = ys.length) (hk : xs.length ≤ k) : decide (xs = ys) = true := by
  rw [List.take_of_length_le hk, List.take_of_length_le (by omega)] at h
  simp [h]

end Go.Proofs.Ytddbndmbcdeggaa

namespace Go.Proofs.Ytddbndmbcdeggaa
open Go.RowKit

def intT : TypeId := 3
theorem int_len (x : Int) : (intCells x).length = 1 := rfl

def inOf (l : List Int) (n : Int) : Int := match l.findIdx? (· == n) with | some i => i | none => -1

/-- All of them are numbers of frames. -/
def thereB (k : Int) (l : List Int) : Bool := l.all fun f => numB f (k - 1)

end Go.Proofs.Ytddbndmbcdeggaa

namespace Go.Proofs.Ytddbndmbcdeggaa
open Go.RowKit

theorem has1_any (g n : Nat) (A : Option Addr) (c : Nat) (f : Int) (w : World) (hn : n ≤ 140737488355328) (hc : w.cell? ⟨g, 0, none⟩ = some (.slice A n c)) :
    Calls Try.prog 85 #[.int .i64 f, .pointer (some ⟨g, 0, none⟩)] w fun e w' => e = .returned (.bool (!numB f ((n : Int) / 8 - 1))) ∧ Below w.heap.size w w' := by
  have HF := Lib.hid (fun W => memFrames_any A n c W (by omega))
  have hs : numB f ((n : Int) / 8 - 1) = (decide (0 ≤ f) && decide (f < (n : Int) / 8)) := by
    unfold numB
    congr 1
    simp
    omega
  have HS := Lib.hid hs
  clear hs
  by_cases h0 : f < 0
  · have HM := Lib.hid (show numB f ((n : Int) / 8 - 1) = false by rw [HS.out]; simp; omega)
    go_enter Try.func85, Try.ntmps85
    go_wp2
    go_ret
    exact ⟨by rw [HM.out]; rfl, Below.refl _ _⟩
  · by_cases h1 : (n : Int) / 8 ≤ f
    · have HM := Lib.hid (show numB f ((n : Int) / 8 - 1) = false by rw [HS.out]; simp; omega)
      have q1 : decide ((n : Int) / 8 ≤ f) = true := by simp; omega
      go_enter Try.func85, Try.ntmps85
      go_wp2_with fail
      refine Calls.mono (HF.out _) ?_
      rintro e w1 ⟨rfl, hb1⟩
      have hs1 := hb1.size
      try simp at hs1
      have HB1 := Lib.hid hb1
      clear hb1
      go_wp2
      go_ret
      exact ⟨by rw [HM.out]; rfl, HB1.out⟩
    · have HM := Lib.hid (show numB f ((n : Int) / 8 - 1) = true by rw [HS.out]; simp; omega)
      have q1 : decide ((n : Int) / 8 ≤ f) = false := by simp; omega
      go_enter Try.func85, Try.ntmps85
      go_wp2_with fail
      refine Calls.mono (HF.out _) ?_
      rintro e w1 ⟨rfl, hb1⟩
      have hs1 := hb1.size
      try simp at hs1
      have HB1 := Lib.hid hb1
      clear hb1
      go_wp2
      go_ret
      exact ⟨by rw [HM.out]; rfl, HB1.out⟩

/-- The place of the first one that is asked for; -1: there is none. -/
def idx {α : Type} (p : α → Bool) (l : List α) : Int := if l.any p then (l.findIdx p : Int) else -1

theorem any_take_step {α : Type} {p : α → Bool} {l : List α} {k : Nat} (h : (l.take k).any p = false) (hk : k < l.length) (hp : p l[k] = false) : (l.take (k + 1)).any p = false := by
  rw [take_snoc_get l k hk, List.any_append, h]; simp [hp]
theorem idx_yes {α : Type} {p : α → Bool} {l : List α} {k : Nat} (h : (l.take k).any p = false) (hk : k < l.length) (hp : p l[k] = true) : idx p l = k := by
  have ha : l.any p = true := List.any_eq_true.2 ⟨_, List.getElem_mem hk, hp⟩
  unfold idx
  rw [if_pos ha]
  have : l.findIdx p = k := by
    rw [List.findIdx_eq hk]
    refine ⟨hp, fun j hj => ?_⟩
    have := List.any_eq_false.1 h l[j] (by rw [List.mem_take_iff_getElem]; exact ⟨j, by omega, rfl⟩)
    simpa using this
  rw [this]
theorem idx_no {α : Type} {p : α → Bool} {l : List α} {k : Nat} (h : (l.take k).any p = false) (hk : l.length ≤ k) : idx p l = -1 := by
  rw [List.take_of_length_le hk] at h
  unfold idx
  rw [if_neg (by rw [h]; decide)]

set_option maxHeartbeats 1000000 in
theorem IndexFunc_int (K : Nat) (cap : Value) (p : Int → Bool) (L : Option Addr) (cl : Nat) (l : List Int) (w : World) (hl : l.length ≤ 140737488355328) (hL : At w L 1 intCells l)
    (hK : ∀ (v : Value) (W : World), Sem.run Try.prog (callFunc K #[v, cap]) W = .ok (.enter K #[v, cap]) W)
    (hp : ∀ (W : World) (x : Int), Below w.heap.size w W → Calls Try.prog K #[.int .i64 x, cap] W fun e w' => e = .returned (.bool (p x)) ∧ Below W.heap.size W w') :
    Calls Try.prog 91 #[.slice L l.length cl, .func (.func K) #[] #[cap]] w fun e w' => e = .returned (.int .i64 (idx p l)) ∧ Below w.heap.size w w' := by
  have HP := Lib.hid hp
  clear hp
  go_enter Try.func91, Try.ntmps91
  go_wp2
  go_loopw [8] (fun i wr => ∃ k : Nat, k ≤ l.length ∧ i = .int .i64 k ∧ (l.take k).any p = false ∧ Below w.heap.size w wr) (fun i _ => l.length - (intOf i).toNat)
  case atStart => exact ⟨0, Nat.zero_le _, rfl, rfl, Below.refl _ _⟩
  case round =>
    obtain ⟨k, hk, rfl, ht, hbw⟩ := hrel
    have HT := Lib.hid ht
    clear ht
    have HBW := Lib.hid hbw
    have hsw := hbw.size
    clear hbw
    by_cases hlt : k < l.length
    · obtain ⟨ba, oa, rfl, hba, hca⟩ := at_cell hL HBW.out hlt rfl
      obtain ⟨x, hxk⟩ : ∃ x, l[k] = x := ⟨_, rfl⟩
      rw [hxk] at hca
      have HXK := Lib.hid hxk
      clear hxk
      have hki : (k : Int) < l.length := by omega
      go_wp2_with fail
      cases hg : p x
      · have HG := Lib.hid hg
        refine Calls.mono (HP.out _ _ HBW.out) ?_
        rintro e w1 ⟨rfl, hb1⟩
        have hs1 := hb1.size
        try simp at hs1
        have HB1 := Lib.hid hb1
        clear hb1
        rw [HG.out]
        clear hg
        go_wp2
        go_roundw
        case rel => exact ⟨k + 1, by omega, by go_num, any_take_step HT.out hlt (by rw [HXK.out]; exact HG.out), (by repeat' (first | (with_reducible exact Below.refl _ _) | (with_reducible (refine Below.setCell ?_ ?_ _)) | (with_reducible (refine Below.alloc ?_ ?_ _)) | (with_reducible (refine Below.drew ?_)) | (with_reducible (refine below_via ?_ HB1.out ?_)) | (with_reducible (refine below_via ?_ HBW.out ?_)) | omega | (simp; done) | (simp; omega)))⟩
        case measure => simp [intOf]; omega
      · have HG := Lib.hid hg
        refine Calls.mono (HP.out _ _ HBW.out) ?_
        rintro e w1 ⟨rfl, hb1⟩
        have hs1 := hb1.size
        try simp at hs1
        have HB1 := Lib.hid hb1
        clear hb1
        rw [HG.out]
        clear hg
        go_wp2
        go_ret
        exact ⟨by rw [idx_yes HT.out hlt (by rw [HXK.out]; exact HG.out)]; rfl, (by repeat' (first | (with_reducible exact Below.refl _ _) | (with_reducible (refine Below.setCell ?_ ?_ _)) | (with_reducible (refine Below.alloc ?_ ?_ _)) | (with_reducible (refine Below.drew ?_)) | (with_reducible (refine below_via ?_ HB1.out ?_)) | (with_reducible (refine below_via ?_ HBW.out ?_)) | omega | (simp; done) | (simp; omega)))⟩
    · go_wp2
      go_ret
      exact ⟨by rw [idx_no HT.out (by omega)]; rfl, HBW.out⟩

theorem idx_ge {α : Type} (p : α → Bool) (l : List α) : decide (0 ≤ idx p l) = l.any p := by
  unfold idx
  split
  · rename_i h; simp [h]
  · rename_i h; simp only [Bool.not_eq_true] at h; rw [h]; decide

set_option maxHeartbeats 1000000 in
theorem ContainsFunc_int (K : Nat) (cap : Value) (p : Int → Bool) (L : Option Addr) (cl : Nat) (l : List Int) (w : World) (hl : l.length ≤ 140737488355328) (hL : At w L 1 intCells l)
    (hK : ∀ (v : Value) (W : World), Sem.run Try.prog (callFunc K #[v, cap]) W = .ok (.enter K #[v, cap]) W)
    (hp : ∀ (W : World) (x : Int), Below w.heap.size w W → Calls Try.prog K #[.int .i64 x, cap] W fun e w' => e = .returned (.bool (p x)) ∧ Below W.heap.size W w') :
    Calls Try.prog 84 #[.slice L l.length cl, .func (.func K) #[] #[cap]] w fun e w' => e = .returned (.bool (l.any p)) ∧ Below w.heap.size w w' := by
  have HI := Lib.hid (IndexFunc_int K cap p L cl l w hl hL hK hp)
  have HG := Lib.hid (idx_ge p l)
  clear hp hL hK
  go_enter Try.func84, Try.ntmps84
  go_wp2_with fail
  refine Calls.mono (HI.out) ?_
  rintro e w1 ⟨rfl, hb1⟩
  have hs1 := hb1.size
  try simp at hs1
  have HB1 := Lib.hid hb1
  clear hb1
  generalize idx p l = ix at *
  go_wp2
  go_ret
  exact ⟨by rw [← HG.out]; rfl, HB1.out⟩

theorem any_not_there (k : Int) (l : List Int) : (l.any fun f => !numB f (k - 1)) = !thereB k l := by
  unfold thereB
  rw [List.not_all_eq_any_not]

set_option maxHeartbeats 1000000 in
theorem memHas_any (A L : Option Addr) (c cl n : Nat) (l : List Int) (w : World) (hn : n ≤ 140737488355328) (hl : l.length ≤ 140737488355328) (hL : At w L 1 intCells l) :
    Calls Try.prog 74 #[.agg #[.slice A n c], .slice L l.length cl] w fun e w' => e = .returned (.bool (thereB ((n : Int) / 8) l)) ∧ Below w.heap.size w w' := by
  have HC := Lib.hid (fun W (hb : Below w.heap.size w W) (g : Nat) (hg : ∀ W', Below W.heap.size W W' → W'.cell? ⟨g, 0, none⟩ = some (.slice A n c)) =>
    ContainsFunc_int 85 (.pointer (some ⟨g, 0, none⟩)) (fun f => !numB f ((n : Int) / 8 - 1)) L cl l W hl (hL.below hb) (fun _ _ => by kernel_rfl) (fun W' x hb' => has1_any g n A c x W' hn (hg W' hb')))
  clear hL
  have HN := Lib.hid (any_not_there ((n : Int) / 8) l)
  go_enter Try.func74, Try.ntmps74
  go_wp2_with fail
  refine Calls.mono (HC.out _ ((Below.refl _ _).alloc (Nat.le_refl _) _) w.heap.size (fun W' hb => (hb.cell (by simp)).trans (by go_simp))) ?_
  rintro e w1 ⟨rfl, hb1⟩
  have hs1 := hb1.size
  try simp at hs1
  have HB1 := Lib.hid hb1
  clear hb1
  rw [HN.out]
  go_wp2
  go_ret
  exact ⟨by simp, (by repeat' (first | (with_reducible exact Below.refl _ _) | (with_reducible (refine Below.setCell ?_ ?_ _)) | (with_reducible (refine Below.alloc ?_ ?_ _)) | (with_reducible (refine Below.drew ?_)) | (with_reducible (refine below_via ?_ HB1.out ?_)) | omega | (simp; done) | (simp; omega)))⟩

end Go.Proofs.Ytddbndmbcdeggaa

namespace Go.Proofs.Ytddbndmbcdeggaa
open Go.RowKit

def zeros (n : Nat) : List Int := List.replicate n 0

theorem memFramesF_any (A : Option Addr) (n c : Nat) (w : World) (hn : n ≤ 9223372036854775807) (g : Bool) (hg : memOk n = g) :
    Calls Try.prog 46 #[.agg #[.slice A n c]] w fun e w' => e = .returned (.tuple #[.int .i64 (if g then (n : Int) / 8 else 0), .int .i64 (if g then 0 else 1)]) ∧ Below w.heap.size w w' := by
  have HC := Lib.hid (fun W => memCheck_any A n c W hn g hg)
  have HF := Lib.hid (fun W => memFrames_any A n c W hn)
  clear hg
  cases g
  · go_enter Try.func46, Try.ntmps46
    go_wp2_with fail
    refine Calls.mono (HC.out _) ?_
    rintro e w1 ⟨rfl, hb1⟩
    have hs1 := hb1.size
    try simp at hs1
    have hc1_0 := fun o => (bcell hb1).1 (w.heap.size) o (by first | omega | (simp; done) | (simp; omega))
    have hf1_0 := fun o => (bcell hb1).2.1 (w.heap.size) o (by first | omega | (simp; done) | (simp; omega))
    have hz1_0 := (bcell hb1).2.2 (w.heap.size) (by first | omega | (simp; done) | (simp; omega))
    have HB1 := Lib.hid hb1
    clear hb1
    go_wp2
    go_ret2
    exact ⟨rfl, (by repeat' (first | (with_reducible exact Below.refl _ _) | (with_reducible (refine Below.setCell ?_ ?_ _)) | (with_reducible (refine Below.alloc ?_ ?_ _)) | (with_reducible (refine Below.drew ?_)) | (with_reducible (refine below_via ?_ HB1.out ?_)) | omega | (simp; done) | (simp; omega)))⟩
  · go_enter Try.func46, Try.ntmps46
    go_wp2_with fail
    refine Calls.mono (HC.out _) ?_
    rintro e w1 ⟨rfl, hb1⟩
    have hs1 := hb1.size
    try simp at hs1
    have hc1_0 := fun o => (bcell hb1).1 (w.heap.size) o (by first | omega | (simp; done) | (simp; omega))
    have hf1_0 := fun o => (bcell hb1).2.1 (w.heap.size) o (by first | omega | (simp; done) | (simp; omega))
    have hz1_0 := (bcell hb1).2.2 (w.heap.size) (by first | omega | (simp; done) | (simp; omega))
    have HB1 := Lib.hid hb1
    clear hb1
    go_wp2_with fail
    refine Calls.mono (HF.out _) ?_
    rintro e w2 ⟨rfl, hb2⟩
    have hs2 := hb2.size
    try simp at hs2
    have HB2 := Lib.hid hb2
    clear hb2
    go_wp2
    go_ret2
    exact ⟨rfl, (by repeat' (first | (with_reducible exact Below.refl _ _) | (with_reducible (refine Below.setCell ?_ ?_ _)) | (with_reducible (refine Below.alloc ?_ ?_ _)) | (with_reducible (refine Below.drew ?_)) | (with_reducible (refine below_via ?_ HB2.out ?_)) | (with_reducible (refine below_via ?_ HB1.out ?_)) | omega | (simp; done) | (simp; omega)))⟩

def askOf (n : Nat) (l : List Int) : Int := if memOk n then (if thereB ((n : Int) / 8) l then 0 else 2) else 1

theorem ask_any (A L : Option Addr) (c cl n : Nat) (l : List Int) (w : World) (hn : n ≤ 140737488355328) (hl : l.length ≤ 140737488355328) (hL : At w L 1 intCells l) :
    Calls Try.prog 57 #[.agg #[.slice A n c], .slice L l.length cl] w fun e w' => e = .returned (.int .i64 (askOf n l)) ∧ Below w.heap.size w w' := by
  have HM := Lib.hid (fun W => memMay_any A n c W (by omega))
  have HH := Lib.hid (fun W (hb : Below w.heap.size w W) => memHas_any A L c cl n l W hn hl (hL.below hb))
  clear hL
  cases hg : memOk n
  · have HA := Lib.hid (show askOf n l = 1 by rw [askOf, hg]; rfl)
    rw [hg] at HM
    clear hg
    go_enter Try.func57, Try.ntmps57
    go_wp2_with fail
    refine Calls.mono (HM.out _) ?_
    rintro e w1 ⟨rfl, hb1⟩
    have hs1 := hb1.size
    try simp at hs1
    have HB1 := Lib.hid hb1
    clear hb1
    go_wp2
    go_ret
    exact ⟨by rw [HA.out]; rfl, (by repeat' (first | (with_reducible exact Below.refl _ _) | (with_reducible (refine Below.setCell ?_ ?_ _)) | (with_reducible (refine Below.alloc ?_ ?_ _)) | (with_reducible (refine Below.drew ?_)) | (with_reducible (refine below_via ?_ HB1.out ?_)) | omega | (simp; done) | (simp; omega)))⟩
  · rw [hg] at HM
    cases ht : thereB ((n : Int) / 8) l
    · have HA := Lib.hid (show askOf n l = 2 by rw [askOf, hg, ht]; rfl)
      rw [ht] at HH
      clear hg ht
      go_enter Try.func57, Try.ntmps57
      go_wp2_with fail
      refine Calls.mono (HM.out _) ?_
      rintro e w1 ⟨rfl, hb1⟩
      have hs1 := hb1.size
      try simp at hs1
      have hc1_0 := fun o => (bcell hb1).1 (w.heap.size) o (by first | omega | (simp; done) | (simp; omega))
      have hf1_0 := fun o => (bcell hb1).2.1 (w.heap.size) o (by first | omega | (simp; done) | (simp; omega))
      have hz1_0 := (bcell hb1).2.2 (w.heap.size) (by first | omega | (simp; done) | (simp; omega))
      have HB1 := Lib.hid hb1
      clear hb1
      go_wp2_with fail
      refine Calls.mono (HH.out _ (by repeat' (first | (with_reducible exact Below.refl _ _) | (with_reducible (refine Below.setCell ?_ ?_ _)) | (with_reducible (refine Below.alloc ?_ ?_ _)) | (with_reducible (refine Below.drew ?_)) | (with_reducible (refine below_via ?_ HB1.out ?_)) | omega | (simp; done) | (simp; omega)))) ?_
      rintro e w2 ⟨rfl, hb2⟩
      have hs2 := hb2.size
      try simp at hs2
      have HB2 := Lib.hid hb2
      clear hb2
      go_wp2
      go_ret
      exact ⟨by rw [HA.out]; rfl, (by repeat' (first | (with_reducible exact Below.refl _ _) | (with_reducible (refine Below.setCell ?_ ?_ _)) | (with_reducible (refine Below.alloc ?_ ?_ _)) | (with_reducible (refine Below.drew ?_)) | (with_reducible (refine below_via ?_ HB2.out ?_)) | (with_reducible (refine below_via ?_ HB1.out ?_)) | omega | (simp; done) | (simp; omega)))⟩
    · have HA := Lib.hid (show askOf n l = 0 by rw [askOf, hg, ht]; rfl)
      rw [ht] at HH
      clear hg ht
      go_enter Try.func57, Try.ntmps57
      go_wp2_with fail
      refine Calls.mono (HM.out _) ?_
      rintro e w1 ⟨rfl, hb1⟩
      have hs1 := hb1.size
      try simp at hs1
      have hc1_0 := fun o => (bcell hb1).1 (w.heap.size) o (by first | omega | (simp; done) | (simp; omega))
      have hf1_0 := fun o => (bcell hb1).2.1 (w.heap.size) o (by first | omega | (simp; done) | (simp; omega))
      have hz1_0 := (bcell hb1).2.2 (w.heap.size) (by first | omega | (simp; done) | (simp; omega))
      have HB1 := Lib.hid hb1
      clear hb1
      go_wp2_with fail
      refine Calls.mono (HH.out _ (by repeat' (first | (with_reducible exact Below.refl _ _) | (with_reducible (refine Below.setCell ?_ ?_ _)) | (with_reducible (refine Below.alloc ?_ ?_ _)) | (with_reducible (refine Below.drew ?_)) | (with_reducible (refine below_via ?_ HB1.out ?_)) | omega | (simp; done) | (simp; omega)))) ?_
      rintro e w2 ⟨rfl, hb2⟩
      have hs2 := hb2.size
      try simp at hs2
      have HB2 := Lib.hid hb2
      clear hb2
      go_wp2
      go_ret
      exact ⟨by rw [HA.out]; rfl, (by repeat' (first | (with_reducible exact Below.refl _ _) | (with_reducible (refine Below.setCell ?_ ?_ _)) | (with_reducible (refine Below.alloc ?_ ?_ _)) | (with_reducible (refine Below.drew ?_)) | (with_reducible (refine below_via ?_ HB2.out ?_)) | (with_reducible (refine below_via ?_ HB1.out ?_)) | omega | (simp; done) | (simp; omega)))⟩

theorem memOf_any (b off : Nat) (c n : Nat) (f : Nat) (w : World) (hn : n ≤ 512) (hc : n ≤ c) (hf : 8 * f + 8 ≤ n) :
    Calls Try.prog 59 #[.agg #[.slice (some ⟨b, off, none⟩) n c], .int .i64 f] w fun e w' => e = .returned (.slice (some ⟨b, off + f * 8, none⟩) 8 (c - f * 8)) ∧ Below w.heap.size w w' := by
  have h1 : ((f : Int) + 1) * 8 ≤ c := by omega
  have h2 : (0 : Int) ≤ (f : Int) * 8 := by omega
  have h3 : (f : Int) * 8 ≤ ((f : Int) + 1) * 8 := by omega
  go_enter Try.func59, Try.ntmps59
  go_wp2
  go_ret
  exact ⟨by show Ending.returned (.slice _ ((f + 1) * 8 - f * 8) _) = _; rw [show (f + 1) * 8 - f * 8 = 8 by omega], (by repeat' (first | (with_reducible exact Below.refl _ _) | (with_reducible (refine Below.setCell ?_ ?_ _)) | (with_reducible (refine Below.alloc ?_ ?_ _)) | (with_reducible (refine Below.drew ?_)) | omega | (simp; done) | (simp; omega)))⟩

/-- The words of a frame. -/
def frameOf (ws : List Int) (f : Nat) : List Int := (ws.drop (f * 8)).take 8
theorem frame_len (ws : List Int) (f : Nat) (h : 8 * f + 8 ≤ ws.length) : (frameOf ws f).length = 8 := by simp [frameOf]; omega
theorem At.cut {α : Type} {w : World} {b off size : Nat} {g : α → List Value} {l : List α} (h : At w (some ⟨b, off, none⟩) size g l) (k n : Nat) : At w (some ⟨b, off + k * size, none⟩) size g ((l.drop k).take n) := by
  intro hl
  simp only [List.length_take, List.length_drop] at hl
  obtain ⟨b', off', e, hb, hc⟩ := h (by omega)
  injection e with e
  injection e with e1 e2
  subst e1 e2
  refine ⟨b, off + k * size, rfl, hb, fun i hi j u hu => ?_⟩
  simp only [List.length_take, List.length_drop] at hi
  have h1 := hc (k + i) (by omega) j u (by simpa [List.getElem_take, List.getElem_drop] using hu)
  rw [Nat.add_mul, ← Nat.add_assoc] at h1
  exact h1

theorem askOf_zero {n : Nat} {l : List Int} (h : askOf n l = 0) : memOk n = true ∧ thereB ((n : Int) / 8) l = true := by
  unfold askOf at h
  split at h
  · rename_i h1
    split at h
    · rename_i h2; exact ⟨h1, h2⟩
    · omega
  · omega

theorem at_new1 {α : Type} {g : α → List Value} {t : TypeId} (W : World) (u : Value) (x : α) (b : Nat) (hb : b = W.heap.size) (hx : g x = [u]) : At (W.alloc (.cells #[u] t)) (some ⟨b, 0, none⟩) 1 g [x] := by
  subst hb
  intro _
  refine ⟨_, 0, rfl, by simp, fun i hi j v hv => ?_⟩
  have hi0 : i = 0 := by simpa using hi
  subst hi0
  rw [cell_of_row _ _ _ _ _ _ (heap_new W _)]
  simp only [List.getElem_cons_zero, hx] at hv
  simpa using hv

set_option maxHeartbeats 1000000 in
theorem Frame_no (A : Option Addr) (c n : Nat) (f : Int) (w : World) (hn : n ≤ 140737488355328) (h : askOf n [f] ≠ 0) :
    Calls Try.prog 39 #[.agg #[.slice A n c], .int .i64 f] w fun e w' => e = .returned (.tuple #[.slice none 0 0, .int .i64 (askOf n [f])]) ∧ Below w.heap.size w w' := by
  have HA := Lib.hid (fun (L : Option Addr) W (hL : At W L 1 intCells [f]) => ask_any A L c 1 n [f] W hn (by simp) hL)
  generalize askOf n [f] = r at *
  have q : (r != 0) = true := by simpa using h
  clear h
  go_enter Try.func39, Try.ntmps39
  go_wp2_with fail
  refine Calls.mono (HA.out _ _ (by exact at_new1 _ _ _ _ (by simp) rfl)) ?_
  rintro e w1 ⟨rfl, hb1⟩
  have hs1 := hb1.size
  try simp at hs1
  have hc1_0 := fun o => (bcell hb1).1 (w.heap.size) o (by first | omega | (simp; done) | (simp; omega))
  have hf1_0 := fun o => (bcell hb1).2.1 (w.heap.size) o (by first | omega | (simp; done) | (simp; omega))
  have hz1_0 := (bcell hb1).2.2 (w.heap.size) (by first | omega | (simp; done) | (simp; omega))
  have HB1 := Lib.hid hb1
  clear hb1
  go_wp2
  go_ret2
  exact ⟨rfl, (by repeat' (first | (with_reducible exact Below.refl _ _) | (with_reducible (refine Below.setCell ?_ ?_ _)) | (with_reducible (refine Below.alloc ?_ ?_ _)) | (with_reducible (refine Below.drew ?_)) | (with_reducible (refine below_via ?_ HB1.out ?_)) | omega | (simp; done) | (simp; omega)))⟩

set_option maxHeartbeats 1000000 in
theorem Frame_yes (A : Option Addr) (c : Nat) (ws : List Int) (f : Nat) (w : World) (hn : ws.length ≤ 512) (hc : ws.length ≤ c) (hA : At w A 1 wordCells ws) (h : askOf ws.length [(f : Int)] = 0) (hf : 8 * f + 8 ≤ ws.length) :
    Calls Try.prog 39 #[.agg #[.slice A ws.length c], .int .i64 f] w fun e w' => ∃ A' c', e = .returned (.tuple #[.slice A' (frameOf ws f).length c', .int .i64 0]) ∧ Own w' (w.heap.size + 1) wordT 1 wordCells (frameOf ws f) A' c' ∧ Below w.heap.size w w' := by
  have HA := Lib.hid (fun (L : Option Addr) W (hL : At W L 1 intCells [(f : Int)]) => ask_any A L c 1 ws.length [(f : Int)] W (by omega) (by simp) hL)
  rw [h] at HA
  obtain ⟨b, off, rfl, hbl, _⟩ := hA (by omega)
  have HO := Lib.hid (fun W => memOf_any b off c ws.length f W hn hc hf)
  have hfl := frame_len ws f hf
  have HC := Lib.hid (fun W (hb : Below w.heap.size w W) => clone_any (some ⟨b, off + f * 8, none⟩) (c - f * 8) (frameOf ws f) W (by omega) (by have := (hA.cut (f * 8) 8).below hb; rwa [Nat.mul_one] at this))
  rw [hfl] at HC
  have HFL := Lib.hid hfl
  clear h hA hfl
  go_enter Try.func39, Try.ntmps39
  go_wp2_with fail
  refine Calls.mono (HA.out _ _ (by exact at_new1 _ _ _ _ (by simp) rfl)) ?_
  rintro e w1 ⟨rfl, hb1⟩
  have hs1 := hb1.size
  try simp at hs1
  have hc1_0 := fun o => (bcell hb1).1 (w.heap.size) o (by first | omega | (simp; done) | (simp; omega))
  have hf1_0 := fun o => (bcell hb1).2.1 (w.heap.size) o (by first | omega | (simp; done) | (simp; omega))
  have hz1_0 := (bcell hb1).2.2 (w.heap.size) (by first | omega | (simp; done) | (simp; omega))
  have HB1 := Lib.hid hb1
  clear hb1
  go_wp2_with fail
  refine Calls.mono (HO.out _) ?_
  rintro e w2 ⟨rfl, hb2⟩
  have hs2 := hb2.size
  try simp at hs2
  have hc2_0 := fun o => (bcell hb2).1 (w.heap.size) o (by first | omega | (simp; done) | (simp; omega))
  have hf2_0 := fun o => (bcell hb2).2.1 (w.heap.size) o (by first | omega | (simp; done) | (simp; omega))
  have hz2_0 := (bcell hb2).2.2 (w.heap.size) (by first | omega | (simp; done) | (simp; omega))
  have HB2 := Lib.hid hb2
  clear hb2
  go_wp2_with fail
  refine Calls.mono (HC.out _ (by repeat' (first | (with_reducible exact Below.refl _ _) | (with_reducible (refine Below.setCell ?_ ?_ _)) | (with_reducible (refine Below.alloc ?_ ?_ _)) | (with_reducible (refine Below.drew ?_)) | (with_reducible (refine below_via ?_ HB2.out ?_)) | (with_reducible (refine below_via ?_ HB1.out ?_)) | omega | (simp; done) | (simp; omega)))) ?_
  rintro e w3 ⟨A', c', rfl, hown, hb3⟩
  have hs3 := hb3.size
  try simp at hs3
  have hc3_0 := fun o => (bcell hb3).1 (w.heap.size) o (by first | omega | (simp; done) | (simp; omega))
  have hf3_0 := fun o => (bcell hb3).2.1 (w.heap.size) o (by first | omega | (simp; done) | (simp; omega))
  have hz3_0 := (bcell hb3).2.2 (w.heap.size) (by first | omega | (simp; done) | (simp; omega))
  have HB3 := Lib.hid hb3
  clear hb3
  have Hhown := Lib.hid hown
  clear hown
  go_wp2_with fail
  go_ret2
  exact ⟨A', c', by rw [HFL.out]; rfl, Hhown.out.mono (by omega), (by repeat' (first | (with_reducible exact Below.refl _ _) | (with_reducible (refine Below.setCell ?_ ?_ _)) | (with_reducible (refine Below.alloc ?_ ?_ _)) | (with_reducible (refine Below.drew ?_)) | (with_reducible (refine below_via ?_ HB3.out ?_)) | (with_reducible (refine below_via ?_ HB2.out ?_)) | (with_reducible (refine below_via ?_ HB1.out ?_)) | omega | (simp; done) | (simp; omega)))⟩

end Go.Proofs.Ytddbndmbcdeggaa
