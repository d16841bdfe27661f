/-
  The word of a descriptor, as the program and the page tell it. Conditions: none for the program's; for the page's, that it may be.
-/
import Derived.Test.YtddbndmbcdeggaaDescE
namespace Go.Proofs.Ytddbndmbcdeggaa
open Go.RowKit

theorem low_twelve : lowOf 12 = 4095 := by decide
theorem low_four : lowOf 4 = 15 := by decide
theorem fdOk_of {at_ n v : Int} (h0 : 1 ≤ n) (h1 : n ≤ 64) (h2 : 0 ≤ at_) (h3 : at_ ≤ 64 - n) (h4 : 0 ≤ v) (h5 : v ≤ lowOf n) : FdOk ⟨at_, n, v⟩ := ⟨h0, h1, h2, h3, h4, h5⟩
theorem fdBit_ok (at_ : Int) (on : Bool) (h0 : 0 ≤ at_) (h1 : at_ ≤ 63) : FdOk (fdBit at_ on) := by
  unfold fdBit
  cases on
  · exact fdOk_of (by decide) (by decide) h0 h1 (by decide) (by decide)
  · exact fdOk_of (by decide) (by decide) h0 h1 (by decide) (by decide)

theorem fieldsDe_ok {stage level : Int} {d : De} (h : mayDe stage level d = true) : ∀ f ∈ fieldsDe stage level d, FdOk f := by
  have hn := mayDe_note h
  have hf := mayDe_frame h
  have hs := mayDe_soft h
  have hk := mayDe_kind h
  have b0 : ∀ at_ on, 0 ≤ at_ → at_ ≤ 63 → FdOk (fdBit at_ on) := fdBit_ok
  have b1 : d.kind ≠ 0 → FdOk ⟨12, 12, d.frame⟩ := fun hk => fdOk_of (by decide) (by decide) (by decide) (by decide) (hf hk).1 (by rw [low_twelve]; exact (hf hk).2)
  have b2 : d.kind = 2 → FdOk ⟨55, 4, d.soft⟩ := fun hk => fdOk_of (by decide) (by decide) (by decide) (by decide) (hs hk).1 (by rw [low_four]; exact (hs hk).2)
  have b3 : d.kind = 0 → FdOk ⟨4, 4, d.note⟩ := fun hk => fdOk_of (by decide) (by decide) (by decide) (by decide) (hn hk).1 (by rw [low_four]; exact (hn hk).2)
  unfold fieldsDe
  intro f hm
  rcases hk with hk | hk | hk
  · rw [if_pos hk, List.mem_singleton] at hm
    rw [hm]; exact b3 hk
  · rw [if_neg (by omega), if_pos hk] at hm
    simp only [fieldsOne, List.mem_cons, List.not_mem_nil, or_false] at hm
    rcases hm with rfl | rfl | rfl
    · exact b0 _ _ (by decide) (by decide)
    · exact b0 _ _ (by decide) (by decide)
    · exact b1 (by omega)
  · rw [if_neg (by omega), if_neg (by omega)] at hm
    unfold fieldsThree at hm
    split at hm
    · simp only [fieldsOne, fieldsTwo, List.mem_append, List.mem_cons, List.not_mem_nil, or_false] at hm
      rcases hm with ((rfl | rfl | rfl) | rfl | rfl) | rfl | rfl
      all_goals first | exact b0 _ _ (by decide) (by decide) | exact b1 (by omega)
    · simp only [fieldsOne, fieldsTwo, List.mem_append, List.mem_cons, List.not_mem_nil, or_false] at hm
      rcases hm with ((rfl | rfl | rfl) | rfl | rfl) | rfl | rfl | rfl
      all_goals first | exact b0 _ _ (by decide) (by decide) | exact b1 (by omega) | exact b2 hk

/-- Where fields lie, without their values. -/
def spotsOf (l : List Fd) : List (Int × Int) := l.map fun f => (f.at_, f.n)
def takenP (l : List (Int × Int)) : Int := l.foldl (fun a p => bits .or .u64 a (maskAt p.1 p.2)) 0
def disjP (l : List (Int × Int)) : Bool := (List.range l.length).all fun k => bits .and .u64 (takenP (l.take k)) (maskAt (l.getD k (0, 0)).1 (l.getD k (0, 0)).2) == 0
theorem takenP_eq (l : List Fd) : takenP (spotsOf l) = takenW l := by
  unfold takenP spotsOf takenW
  rw [List.foldl_map]
  rfl
theorem disj_of {l : List Fd} (h : disjP (spotsOf l) = true) : Disj l := by
  intro k hk
  unfold disjP at h
  rw [List.all_eq_true] at h
  have h1 := h k (by simpa [spotsOf] using hk)
  have e : (spotsOf l).take k = spotsOf (l.take k) := by unfold spotsOf; rw [List.map_take]
  rw [e, takenP_eq] at h1
  have e2 : (spotsOf l).getD k (0, 0) = (l[k].at_, l[k].n) := by
    rw [List.getD_eq_getElem?_getD, spotsOf, List.getElem?_map, List.getElem?_eq_getElem hk]
    rfl
  rw [e2] at h1
  simpa using h1

theorem fieldsDe_disj (stage level : Int) (d : De) : Disj (fieldsDe stage level d) := by
  refine disj_of ?_
  unfold fieldsDe
  split
  · show disjP [(4, 4)] = true
    decide +kernel
  · split
    · show disjP [(0, 1), (1, 1), (12, 12)] = true
      decide +kernel
    · unfold fieldsThree
      split
      · show disjP [(0, 1), (1, 1), (12, 12), (10, 1), (54, 1), (7, 1), (11, 1)] = true
        decide +kernel
      · show disjP [(0, 1), (1, 1), (12, 12), (10, 1), (54, 1), (6, 1), (7, 1), (55, 4)] = true
        decide +kernel

def wordDe (stage level : Int) (d : De) : Int := joinW (fieldsDe stage level d)
theorem fieldsDe_len (stage level : Int) (d : De) : (fieldsDe stage level d).length ≤ 100 := by
  unfold fieldsDe
  split
  · simp
  · split
    · simp [fieldsOne]
    · unfold fieldsThree
      split <;> simp [fieldsOne, fieldsTwo]

def formOf (b : Bool) : Int := if b then 0 else 1

set_option maxRecDepth 100000 in
set_option maxHeartbeats 2000000 in
theorem word_any (stage level : Int) (d : De) (w : World) :
    Calls Try.prog 61 #[.int .i64 stage, .int .i64 level, .agg d.cells.toArray] w fun e w' => e = .returned (.tuple #[.int .u64 (if checkDe stage level d then wordDe stage level d else 0), .int .i64 (if checkDe stage level d then 0 else 1)]) ∧ Below w.heap.size w w' := by
  have HC := Lib.hid (fun W => check_any stage level d W)
  cases hg : checkDe stage level d
  · rw [hg] at HC
    obtain ⟨kind, frame, r, dw, x, af, ng, soft, note⟩ := d
    dsimp only [De.cells] at *
    clear hg
    go_enter Try.func61, Try.ntmps61
    go_wp2_with fail
    refine Calls.mono (HC.out _) ?_
    rintro e w1 ⟨rfl, hb1⟩
    have hs1 := hb1.size
    try simp at hs1
    have hc1_0 := fun o => (bcell hb1).1 (w.heap.size) o (by first | omega | (simp; done) | (simp; omega))
    have hf1_0 := fun o => (bcell hb1).2.1 (w.heap.size) o (by first | omega | (simp; done) | (simp; omega))
    have hz1_0 := (bcell hb1).2.2 (w.heap.size) (by first | omega | (simp; done) | (simp; omega))
    have HB1 := Lib.hid hb1
    clear hb1
    go_wp2
    go_ret2
    exact ⟨rfl, (by repeat' (first | (with_reducible exact Below.refl _ _) | (with_reducible (refine Below.setCell ?_ ?_ _)) | (with_reducible (refine Below.alloc ?_ ?_ _)) | (with_reducible (refine Below.drew ?_)) | (with_reducible (refine below_via ?_ HB1.out ?_)) | omega | (simp; done) | (simp; omega)))⟩
  · have hm : mayDe stage level d = true := by unfold checkDe at hg; simp at hg; exact hg.2
    have HF := Lib.hid (fun W => fields_any stage level d hm W)
    have HJ := Lib.hid (fun A c W hA => join_any A c (fieldsDe stage level d) W (fieldsDe_len _ _ _) hA (fieldsDe_ok hm) (fieldsDe_disj _ _ _))
    rw [hg] at HC
    unfold wordDe
    generalize fieldsDe stage level d = l at *
    obtain ⟨kind, frame, r, dw, x, af, ng, soft, note⟩ := d
    dsimp only [De.cells] at *
    clear hg hm
    go_enter Try.func61, Try.ntmps61
    go_wp2_with fail
    refine Calls.mono (HC.out _) ?_
    rintro e w1 ⟨rfl, hb1⟩
    have hs1 := hb1.size
    try simp at hs1
    have hc1_0 := fun o => (bcell hb1).1 (w.heap.size) o (by first | omega | (simp; done) | (simp; omega))
    have hf1_0 := fun o => (bcell hb1).2.1 (w.heap.size) o (by first | omega | (simp; done) | (simp; omega))
    have hz1_0 := (bcell hb1).2.2 (w.heap.size) (by first | omega | (simp; done) | (simp; omega))
    have HB1 := Lib.hid hb1
    clear hb1
    go_wp2_with fail
    refine Calls.mono (HF.out _) ?_
    rintro e w2 ⟨A, c, rfl, hA, hb2⟩
    have hs2 := hb2.size
    try simp at hs2
    have HB2 := Lib.hid hb2
    clear hb2
    have HhA := Lib.hid hA
    clear hA
    go_wp2_with fail
    refine Calls.mono (HJ.out A c _ HhA.out) ?_
    rintro e w3 ⟨rfl, hb3⟩
    have hs3 := hb3.size
    try simp at hs3
    have HB3 := Lib.hid hb3
    clear hb3
    go_wp2
    go_ret2
    exact ⟨rfl, (by repeat' (first | (with_reducible exact Below.refl _ _) | (with_reducible (refine Below.setCell ?_ ?_ _)) | (with_reducible (refine Below.alloc ?_ ?_ _)) | (with_reducible (refine Below.drew ?_)) | (with_reducible (refine below_via ?_ HB3.out ?_)) | (with_reducible (refine below_via ?_ HB2.out ?_)) | (with_reducible (refine below_via ?_ HB1.out ?_)) | omega | (simp; done) | (simp; omega)))⟩

end Go.Proofs.Ytddbndmbcdeggaa
