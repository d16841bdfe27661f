/-
  Whether a descriptor may be: the page's answer. Conditions: the place is there.
-/
import Derived.Test.YtddbndmbcdeggaaDescB
namespace Go.Proofs.Ytddbndmbcdeggaa
open Go.RowKit

def numOk (n m : Int) : Bool := decide (0 ≤ n) && decide (n ≤ m)
theorem num_any (n m : Int) (w : World) : Calls Try.prog 18 #[.int .i64 n, .int .i64 m] w fun e w' => e = .returned (.bool (numOk n m)) ∧ w' = w := by
  unfold numOk
  by_cases h : 0 ≤ n
  · have q : decide (0 ≤ n) = true := by simpa using h
    rw [q]
    go_enter Try.func18, Try.ntmps18
    go_wp2
    go_ret
    exact ⟨rfl, rfl⟩
  · have q : decide (0 ≤ n) = false := by simpa using h
    rw [q]
    clear h
    go_enter Try.func18, Try.ntmps18
    go_wp2
    go_ret
    exact ⟨rfl, rfl⟩

theorem page_any (n : Int) (w : World) : Calls Try.prog 17 #[.int .i64 n] w fun e w' => e = .returned (.bool (numOk n 4095)) ∧ w' = w := by
  have HN := Lib.hid (fun W => num_any n 4095 W)
  go_enter Try.func17, Try.ntmps17
  go_wp2_with (go_at_call 18; refine (HN.out _).mono ?_; rintro e w' ⟨rfl, rfl⟩)
  go_ret
  exact ⟨rfl, rfl⟩

theorem level_cases {level : Int} (h0 : 0 ≤ level) (h1 : level ≤ 3) : level = 0 ∨ level = 1 ∨ level = 2 ∨ level = 3 := by omega

theorem rcovers_any (level : Int) (h0 : 0 ≤ level) (h1 : level ≤ 3) (w : World) : Calls Try.prog 44 #[.int .i64 level] w fun e w' => e = .returned (.int .i64 (coversOf level)) ∧ Below w.heap.size w w' := by
  rcases level_cases h0 h1 with rfl | rfl | rfl | rfl
  all_goals
    go_enter Try.func44, Try.ntmps44
    go_wp2
    go_ret
    exact ⟨rfl, (by repeat' (first | (with_reducible exact Below.refl _ _) | (with_reducible (refine Below.setCell ?_ ?_ _)) | (with_reducible (refine Below.alloc ?_ ?_ _)) | (with_reducible (refine Below.drew ?_)) | omega | (simp; done) | (simp; omega)))⟩

/-- The page's rule. -/
def rulNone (stage : Int) (d : De) : Bool := deEq d ⟨0, 0, false, false, false, false, false, 0, d.note⟩ && (numOk d.note 15 && (stage == 2 || d.note == 0))
def rulTable (level : Int) (d : De) : Bool := decide (level < 3) && (deEq d (bareTable d) && numOk d.frame 4095)
def rulLeaf (stage level : Int) (d : De) : Bool := decide (0 < level) && (numOk d.frame 4095 && (d.frame % coversOf level == 0 && (d.note == 0 && ((stage == 2 && (!d.ng && numOk d.soft 15)) || (stage == 1 && (d.r && d.soft == 0))))))

theorem rul_none {stage level : Int} {d : De} (hk : d.kind = 0) : mayDe stage level d = rulNone stage d := by
  obtain ⟨kind, frame, r, dw, x, af, ng, soft, note⟩ := d
  dsimp only at hk
  subst hk
  unfold mayDe rulNone bareNone numOk deEq
  rw [if_pos rfl]
  dsimp only
  rw [Bool.eq_iff_iff]
  simp only [Bool.and_eq_true, beq_iff_eq, decide_eq_true_eq, Bool.or_eq_true]
  by_cases h : stage = 2 ∧ 0 ≤ note ∧ note ≤ 15
  · rw [if_pos h]
    simp only [true_and, and_true]
    exact ⟨fun hh => ⟨hh, h.2, .inl h.1⟩, fun hh => hh.1⟩
  · rw [if_neg h]
    simp only [true_and, and_true]
    constructor
    · rintro ⟨h1, h2, h3, h4, h5, h6, h7, h8⟩
      exact ⟨⟨h1, h2, h3, h4, h5, h6, h7⟩, by omega, .inr h8⟩
    · rintro ⟨⟨h1, h2, h3, h4, h5, h6, h7⟩, hn, h8⟩
      exact ⟨h1, h2, h3, h4, h5, h6, h7, by omega⟩

theorem rul_table {stage level : Int} {d : De} (hk : d.kind = 1) : mayDe stage level d = rulTable level d := by
  unfold mayDe rulTable frameOk numOk
  rw [if_neg (by omega), if_pos hk]
  have : (d.frame % 1 == 0) = true := by simp
  rw [this]
  generalize deEq _ _ = a
  generalize decide (level < 3) = b
  cases a <;> cases b <;> simp

theorem rul_leaf {stage level : Int} {d : De} (hk : d.kind = 2) (hs : stage = 1 ∨ stage = 2) : mayDe stage level d = rulLeaf stage level d := by
  obtain ⟨kind, frame, r, dw, x, af, ng, soft, note⟩ := d
  dsimp only at hk
  subst hk
  unfold mayDe rulLeaf frameOk numOk deEq bareLeaf
  dsimp only
  rw [if_neg (by decide), if_neg (by decide), if_pos rfl]
  rw [Bool.eq_iff_iff]
  rcases hs with rfl | rfl
  · simp only [Bool.and_eq_true, beq_iff_eq, decide_eq_true_eq, Bool.or_eq_true, if_true, true_and]
    constructor
    · rintro ⟨⟨h2, h7, h8⟩, h9, h10, h11, h12, h13, h14⟩
      exact ⟨h9, ⟨h12, h13⟩, h14, h8, .inr ⟨h2, h7⟩⟩
    · rintro ⟨h9, ⟨h12, h13⟩, h14, h8, h15⟩
      rcases h15 with ⟨h15, _⟩ | ⟨h2, h7⟩
      · omega
      · exact ⟨⟨h2, h7, h8⟩, h9, by omega, by omega, h12, h13, h14⟩
  · rw [if_neg (by decide)]
    simp only [Bool.and_eq_true, beq_iff_eq, decide_eq_true_eq, Bool.or_eq_true, Bool.not_eq_true', true_and]
    constructor
    · rintro ⟨⟨h6, h8⟩, h9, h10, h11, h12, h13, h14⟩
      exact ⟨h9, ⟨h12, h13⟩, h14, h8, .inl ⟨h6, h10, h11⟩⟩
    · rintro ⟨h9, ⟨h12, h13⟩, h14, h8, h15⟩
      rcases h15 with ⟨h6, h10, h11⟩ | ⟨h15, _⟩
      · exact ⟨⟨h6, h8⟩, h9, h10, h11, h12, h13, h14⟩
      · omega

end Go.Proofs.Ytddbndmbcdeggaa
