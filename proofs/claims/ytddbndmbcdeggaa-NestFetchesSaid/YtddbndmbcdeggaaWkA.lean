/-
  Hits, faults, tables: the plain words, and what a descriptor in a table is. Conditions: none.
-/
import Derived.Test.YtddbndmbcdeggaaDescJ
import Derived.Test.YtddbndmbcdeggaaIdx
import Derived.Test.YtddbndmbcdeggaaMemA
import Derived.Test.YtddbndmbcdeggaaFlag
namespace Go.Proofs.Ytddbndmbcdeggaa
open Go.RowKit

structure Ht where
  frame : Int
  mid : Int
  r : Bool
  w : Bool
  x : Bool
  af : Bool
  ng : Bool
  soft : Int
  level : Int
def Ht.cells (h : Ht) : List Value := [.int .i64 h.frame, .int .i64 h.mid, .bool h.r, .bool h.w, .bool h.x, .bool h.af, .bool h.ng, .int .i64 h.soft, .int .i64 h.level]
def noHt : Ht := ⟨0, 0, false, false, false, false, false, 0, 0⟩
structure Ft where
  kind : Int
  stage : Int
  level : Int
  walk : Bool
  page : Int
def Ft.cells (f : Ft) : List Value := [.int .i64 f.kind, .int .i64 f.stage, .int .i64 f.level, .bool f.walk, .int .i64 f.page]
def noFt : Ft := ⟨0, 0, 0, false, 0⟩

def U64s (ws : List Int) : Prop := ∀ x ∈ ws, 0 ≤ x ∧ x ≤ 18446744073709551615
def wAt (ws : List Int) (i : Int) : Int := ws.getD i.toNat 0
theorem wAt_range {ws : List Int} (h : U64s ws) (i : Int) : 0 ≤ wAt ws i ∧ wAt ws i ≤ 18446744073709551615 := by
  unfold wAt
  rw [List.getD_eq_getElem?_getD]
  by_cases hl : i.toNat < ws.length
  · rw [List.getElem?_eq_getElem hl]; exact h _ (List.getElem_mem hl)
  · rw [List.getElem?_eq_none (by omega)]; exact ⟨by decide, by decide⟩
/-- A memory that reads as such. -/
structure MeAt (w : World) (A : Option Addr) (c : Nat) (ws : List Int) : Prop where
  at_ : At w A 1 wordCells ws
  cap : ws.length ≤ c
  len : ws.length ≤ 1000000
  u64 : U64s ws
theorem MeAt.below {w w' : World} {A : Option Addr} {c : Nat} {ws : List Int} (h : MeAt w A c ws) (hb : Below w.heap.size w w') : MeAt w' A c ws := ⟨h.at_.below hb, h.cap, h.len, h.u64⟩

def tabDe (ws : List Int) (stage level frame page : Int) : De := ofDe stage level (wAt ws (frame * 8 + idxOf level page))

theorem mayDe_kinds {stage level : Int} {d : De} (h : mayDe stage level d = true) : (d.kind = 0 ∨ d.kind = 1 ∨ d.kind = 2) ∧ (d.kind = 1 → level < 3) ∧ 0 ≤ d.frame ∧ d.frame ≤ 4095 := by
  unfold mayDe at h
  by_cases h0 : d.kind = 0
  · rw [if_pos h0] at h
    refine ⟨.inl h0, fun h1 => by omega, ?_⟩
    obtain ⟨kind, frame, r, dw, x, af, ng, soft, note⟩ := d
    unfold deEq bareNone at h
    simp only [Bool.and_eq_true, beq_iff_eq] at h
    dsimp only
    have : frame = 0 := h.2.1
    omega
  · rw [if_neg h0] at h
    by_cases h1 : d.kind = 1
    · rw [if_pos h1] at h
      unfold frameOk at h
      simp only [Bool.and_eq_true, decide_eq_true_eq] at h
      exact ⟨.inr (.inl h1), fun _ => h.2.1, h.2.2.1, h.2.2.2.1⟩
    · rw [if_neg h1] at h
      by_cases h2 : d.kind = 2
      · rw [if_pos h2] at h
        unfold frameOk at h
        simp only [Bool.and_eq_true, decide_eq_true_eq] at h
        exact ⟨.inr (.inr h2), fun e => absurd e h1, h.2.2.2.2.1, h.2.2.2.2.2.1⟩
      · rw [if_neg h2] at h; cases h
theorem ofDe_kind (stage level x : Int) : ((ofDe stage level x).kind = 0 ∨ (ofDe stage level x).kind = 1 ∨ (ofDe stage level x).kind = 2) ∧ ((ofDe stage level x).kind = 1 → level < 3) ∧ 0 ≤ (ofDe stage level x).frame ∧ (ofDe stage level x).frame ≤ 4095 := by
  unfold ofDe
  cases h : (mayDe stage level (guessDe stage level x) && wordDe stage level (guessDe stage level x) == x)
  · rw [if_neg (by decide)]; exact ⟨.inl rfl, (fun h => absurd h (by decide)), by decide, by decide⟩
  · rw [if_pos rfl]
    simp only [Bool.and_eq_true] at h
    exact mayDe_kinds h.1

theorem idxOf_range (level page : Int) : 0 ≤ idxOf level page ∧ idxOf level page < 8 := by unfold idxOf; omega
theorem memOk_len {n : Nat} (h : memOk n = true) : 0 < n ∧ n % 8 = 0 ∧ n / 8 ≤ 64 := by
  unfold memOk at h
  simpa [Bool.and_eq_true] using h
theorem frameOf_at (ws : List Int) (f k : Nat) (hk : k < 8) (hf : 8 * f + 8 ≤ ws.length) (h : k < (frameOf ws f).length) : (frameOf ws f)[k] = wAt ws (f * 8 + k) := by
  unfold wAt
  have e : ((f : Int) * 8 + k).toNat = f * 8 + k := by omega
  rw [e, List.getD_eq_getElem?_getD, List.getElem?_eq_getElem (show f * 8 + k < ws.length by omega)]
  simp [frameOf]
theorem ask_in {n f : Nat} (hm : memOk n = true) (hf : 8 * f + 8 ≤ n) : askOf n [(f : Int)] = 0 := by
  unfold askOf
  rw [hm, if_pos rfl]
  have : thereB ((n : Int) / 8) [(f : Int)] = true := by simp [thereB, numB]; omega
  rw [this, if_pos rfl]
theorem ask_far {n : Nat} {f : Int} (hm : memOk n = true) (hf : f < 0 ∨ (n : Int) / 8 ≤ f) : askOf n [f] = 2 := by
  unfold askOf
  rw [hm, if_pos rfl]
  have : thereB ((n : Int) / 8) [f] = false := by simp [thereB, numB]; omega
  rw [this]
  rfl

/-- May a table's descriptor be asked for? -/
def tabOk (n : Nat) (stage level page : Int) : Bool := memOk n && (placeOk stage level && numOk page 4095)

set_option maxRecDepth 100000 in
set_option maxHeartbeats 4000000 in
theorem Table_no (A : Option Addr) (c n : Nat) (stage level frame page : Int) (w : World) (hn : n ≤ 1000000) (h : tabOk n stage level page = false) :
    Calls Try.prog 14 #[.agg #[.slice A n c], .int .i64 stage, .int .i64 level, .int .i64 frame, .int .i64 page] w (OfPost w noDe 1) := by
  have HX := Lib.hid (fun W => index_any level page W)
  unfold tabOk at h
  cases hi : idxOk level page
  · simp only [hi] at HX
    clear h
    go_enter Try.func14, Try.ntmps14
    go_wp2_with fail
    refine Calls.mono (HX.out _) ?_
    rintro e w1 ⟨rfl, hb1⟩
    have hs1 := hb1.size
    try simp at hs1
    have hc1_0 := fun o => (bcell hb1).1 (w.heap.size) o (by first | omega | (simp; done) | (simp; omega))
    have hf1_0 := fun o => (bcell hb1).2.1 (w.heap.size) o (by first | omega | (simp; done) | (simp; omega))
    have hz1_0 := (bcell hb1).2.2 (w.heap.size) (by first | omega | (simp; done) | (simp; omega))
    have hc1_1 := fun o => (bcell hb1).1 (w.heap.size + 1) o (by first | omega | (simp; done) | (simp; omega))
    have hf1_1 := fun o => (bcell hb1).2.1 (w.heap.size + 1) o (by first | omega | (simp; done) | (simp; omega))
    have hz1_1 := (bcell hb1).2.2 (w.heap.size + 1) (by first | omega | (simp; done) | (simp; omega))
    have HB1 := Lib.hid hb1
    clear hb1
    go_wp2
    refine bodyPost_ret (v := .tuple #[deV noDe, .int .i64 1]) (by simp [deV, noDe, De.cells, results, Try.results14, go_sem, *]) rfl ⟨rfl, ?_⟩
    repeat' (first | (with_reducible exact Below.refl _ _) | (with_reducible (refine Below.setCell ?_ ?_ _)) | (with_reducible (refine Below.alloc ?_ ?_ _)) | (with_reducible (refine Below.drew ?_)) | (with_reducible (refine below_via ?_ HB1.out ?_)) | omega | (simp; done) | (simp; omega))
  · simp only [hi, if_true] at HX
    unfold idxOk numOk at hi
    simp only [Bool.and_eq_true, decide_eq_true_eq] at hi
    have h2 : memOk n = false ∨ (stage ≠ 1 ∧ stage ≠ 2) := by
      by_cases hs : stage = 1 ∨ stage = 2
      · refine .inl ?_
        cases hm : memOk n
        · rfl
        · rw [hm] at h
          unfold placeOk numOk at h
          rcases hs with rfl | rfl <;> · simp at h; omega
      · exact .inr (by omega)
    clear h hi
    generalize idxOf level page = ix at *
    by_cases hs : stage = 1 ∨ stage = 2
    · have hm : memOk n = false := h2.resolve_right (by omega)
      have HC := Lib.hid (fun W => memCheck_any A n c W (by omega) false hm)
      clear h2 hm
      rcases hs with rfl | rfl
      all_goals
        go_enter Try.func14, Try.ntmps14
        go_wp2_with fail
        refine Calls.mono (HX.out _) ?_
        rintro e w1 ⟨rfl, hb1⟩
        have hs1 := hb1.size
        try simp at hs1
        have hc1_0 := fun o => (bcell hb1).1 (w.heap.size) o (by first | omega | (simp; done) | (simp; omega))
        have hf1_0 := fun o => (bcell hb1).2.1 (w.heap.size) o (by first | omega | (simp; done) | (simp; omega))
        have hz1_0 := (bcell hb1).2.2 (w.heap.size) (by first | omega | (simp; done) | (simp; omega))
        have hc1_1 := fun o => (bcell hb1).1 (w.heap.size + 1) o (by first | omega | (simp; done) | (simp; omega))
        have hf1_1 := fun o => (bcell hb1).2.1 (w.heap.size + 1) o (by first | omega | (simp; done) | (simp; omega))
        have hz1_1 := (bcell hb1).2.2 (w.heap.size + 1) (by first | omega | (simp; done) | (simp; omega))
        have HB1 := Lib.hid hb1
        clear hb1
        go_wp2_with fail
        refine Calls.mono (HC.out _) ?_
        rintro e w2 ⟨rfl, hb2⟩
        have hs2 := hb2.size
        try simp at hs2
        have hc2_0 := fun o => (bcell hb2).1 (w.heap.size) o (by first | omega | (simp; done) | (simp; omega))
        have hf2_0 := fun o => (bcell hb2).2.1 (w.heap.size) o (by first | omega | (simp; done) | (simp; omega))
        have hz2_0 := (bcell hb2).2.2 (w.heap.size) (by first | omega | (simp; done) | (simp; omega))
        have hc2_1 := fun o => (bcell hb2).1 (w.heap.size + 1) o (by first | omega | (simp; done) | (simp; omega))
        have hf2_1 := fun o => (bcell hb2).2.1 (w.heap.size + 1) o (by first | omega | (simp; done) | (simp; omega))
        have hz2_1 := (bcell hb2).2.2 (w.heap.size + 1) (by first | omega | (simp; done) | (simp; omega))
        have HB2 := Lib.hid hb2
        clear hb2
        go_wp2
        refine bodyPost_ret (v := .tuple #[deV noDe, .int .i64 1]) (by simp [deV, noDe, De.cells, results, Try.results14, go_sem, *]) rfl ⟨rfl, ?_⟩
        repeat' (first | (with_reducible exact Below.refl _ _) | (with_reducible (refine Below.setCell ?_ ?_ _)) | (with_reducible (refine Below.alloc ?_ ?_ _)) | (with_reducible (refine Below.drew ?_)) | (with_reducible (refine below_via ?_ HB2.out ?_)) | (with_reducible (refine below_via ?_ HB1.out ?_)) | omega | (simp; done) | (simp; omega))
    · have q1 : (stage != 1) = true := by simp; omega
      have q2 : (stage != 2) = true := by simp; omega
      clear h2 hs
      go_enter Try.func14, Try.ntmps14
      go_wp2_with fail
      refine Calls.mono (HX.out _) ?_
      rintro e w1 ⟨rfl, hb1⟩
      have hs1 := hb1.size
      try simp at hs1
      have hc1_0 := fun o => (bcell hb1).1 (w.heap.size) o (by first | omega | (simp; done) | (simp; omega))
      have hf1_0 := fun o => (bcell hb1).2.1 (w.heap.size) o (by first | omega | (simp; done) | (simp; omega))
      have hz1_0 := (bcell hb1).2.2 (w.heap.size) (by first | omega | (simp; done) | (simp; omega))
      have hc1_1 := fun o => (bcell hb1).1 (w.heap.size + 1) o (by first | omega | (simp; done) | (simp; omega))
      have hf1_1 := fun o => (bcell hb1).2.1 (w.heap.size + 1) o (by first | omega | (simp; done) | (simp; omega))
      have hz1_1 := (bcell hb1).2.2 (w.heap.size + 1) (by first | omega | (simp; done) | (simp; omega))
      have HB1 := Lib.hid hb1
      clear hb1
      go_wp2
      refine bodyPost_ret (v := .tuple #[deV noDe, .int .i64 1]) (by simp [deV, noDe, De.cells, results, Try.results14, go_sem, *]) rfl ⟨rfl, ?_⟩
      repeat' (first | (with_reducible exact Below.refl _ _) | (with_reducible (refine Below.setCell ?_ ?_ _)) | (with_reducible (refine Below.alloc ?_ ?_ _)) | (with_reducible (refine Below.drew ?_)) | (with_reducible (refine below_via ?_ HB1.out ?_)) | omega | (simp; done) | (simp; omega))

theorem tab_parts {n : Nat} {stage level page : Int} (h : tabOk n stage level page = true) : memOk n = true ∧ placeOk stage level = true ∧ idxOk level page = true ∧ (stage = 1 ∨ stage = 2) ∧ 0 ≤ level ∧ level ≤ 3 ∧ 0 ≤ page ∧ page ≤ 4095 := by
  unfold tabOk numOk at h
  simp only [Bool.and_eq_true, decide_eq_true_eq] at h
  obtain ⟨h1, h2, h3⟩ := h
  have h4 := placeOk_level h2
  refine ⟨h1, h2, ?_, placeOk_stage h2, h4.1, h4.2, h3.1, h3.2⟩
  unfold idxOk numOk
  simp only [Bool.and_eq_true, decide_eq_true_eq]
  exact ⟨h4, h3⟩

set_option maxRecDepth 100000 in
set_option maxHeartbeats 4000000 in
theorem Table_far (A : Option Addr) (c n : Nat) (stage level frame page : Int) (w : World) (hn : n ≤ 1000000) (h : tabOk n stage level page = true) (hf : frame < 0 ∨ (n : Int) / 8 ≤ frame) :
    Calls Try.prog 14 #[.agg #[.slice A n c], .int .i64 stage, .int .i64 level, .int .i64 frame, .int .i64 page] w (OfPost w noDe 2) := by
  obtain ⟨hm, hp, hi, hs, -⟩ := tab_parts h
  have HX := Lib.hid (fun W => index_any level page W)
  simp only [hi, if_true] at HX
  have HC := Lib.hid (fun W => memCheck_any A n c W (by omega) true hm)
  have HF := Lib.hid (fun W => Frame_no A c n frame W (by omega) (by rw [ask_far hm hf]; decide))
  rw [ask_far hm hf] at HF
  clear h hm hp hi hf
  generalize idxOf level page = ix at *
  rcases hs with rfl | rfl
  all_goals
    go_enter Try.func14, Try.ntmps14
    go_wp2_with fail
    refine Calls.mono (HX.out _) ?_
    rintro e w1 ⟨rfl, hb1⟩
    have hs1 := hb1.size
    try simp at hs1
    have hc1_0 := fun o => (bcell hb1).1 (w.heap.size) o (by first | omega | (simp; done) | (simp; omega))
    have hf1_0 := fun o => (bcell hb1).2.1 (w.heap.size) o (by first | omega | (simp; done) | (simp; omega))
    have hz1_0 := (bcell hb1).2.2 (w.heap.size) (by first | omega | (simp; done) | (simp; omega))
    have hc1_1 := fun o => (bcell hb1).1 (w.heap.size + 1) o (by first | omega | (simp; done) | (simp; omega))
    have hf1_1 := fun o => (bcell hb1).2.1 (w.heap.size + 1) o (by first | omega | (simp; done) | (simp; omega))
    have hz1_1 := (bcell hb1).2.2 (w.heap.size + 1) (by first | omega | (simp; done) | (simp; omega))
    have HB1 := Lib.hid hb1
    clear hb1
    go_wp2_with fail
    refine Calls.mono (HC.out _) ?_
    rintro e w2 ⟨rfl, hb2⟩
    have hs2 := hb2.size
    try simp at hs2
    have hc2_0 := fun o => (bcell hb2).1 (w.heap.size) o (by first | omega | (simp; done) | (simp; omega))
    have hf2_0 := fun o => (bcell hb2).2.1 (w.heap.size) o (by first | omega | (simp; done) | (simp; omega))
    have hz2_0 := (bcell hb2).2.2 (w.heap.size) (by first | omega | (simp; done) | (simp; omega))
    have hc2_1 := fun o => (bcell hb2).1 (w.heap.size + 1) o (by first | omega | (simp; done) | (simp; omega))
    have hf2_1 := fun o => (bcell hb2).2.1 (w.heap.size + 1) o (by first | omega | (simp; done) | (simp; omega))
    have hz2_1 := (bcell hb2).2.2 (w.heap.size + 1) (by first | omega | (simp; done) | (simp; omega))
    have HB2 := Lib.hid hb2
    clear hb2
    go_wp2_with fail
    refine Calls.mono (HF.out _) ?_
    rintro e w3 ⟨rfl, hb3⟩
    have hs3 := hb3.size
    try simp at hs3
    have hc3_0 := fun o => (bcell hb3).1 (w.heap.size) o (by first | omega | (simp; done) | (simp; omega))
    have hf3_0 := fun o => (bcell hb3).2.1 (w.heap.size) o (by first | omega | (simp; done) | (simp; omega))
    have hz3_0 := (bcell hb3).2.2 (w.heap.size) (by first | omega | (simp; done) | (simp; omega))
    have hc3_1 := fun o => (bcell hb3).1 (w.heap.size + 1) o (by first | omega | (simp; done) | (simp; omega))
    have hf3_1 := fun o => (bcell hb3).2.1 (w.heap.size + 1) o (by first | omega | (simp; done) | (simp; omega))
    have hz3_1 := (bcell hb3).2.2 (w.heap.size + 1) (by first | omega | (simp; done) | (simp; omega))
    have HB3 := Lib.hid hb3
    clear hb3
    go_wp2
    refine bodyPost_ret (v := .tuple #[deV noDe, .int .i64 2]) (by simp [deV, noDe, De.cells, results, Try.results14, go_sem, *]) rfl ⟨rfl, ?_⟩
    repeat' (first | (with_reducible exact Below.refl _ _) | (with_reducible (refine Below.setCell ?_ ?_ _)) | (with_reducible (refine Below.alloc ?_ ?_ _)) | (with_reducible (refine Below.drew ?_)) | (with_reducible (refine below_via ?_ HB3.out ?_)) | (with_reducible (refine below_via ?_ HB2.out ?_)) | (with_reducible (refine below_via ?_ HB1.out ?_)) | omega | (simp; done) | (simp; omega))

set_option maxRecDepth 100000 in
set_option maxHeartbeats 4000000 in
theorem Table_yes (A : Option Addr) (c : Nat) (ws : List Int) (stage level : Int) (f : Nat) (page : Int) (w : World) (hA : MeAt w A c ws) (h : tabOk ws.length stage level page = true) (hf : 8 * f + 8 ≤ ws.length) :
    Calls Try.prog 14 #[.agg #[.slice A ws.length c], .int .i64 stage, .int .i64 level, .int .i64 f, .int .i64 page] w (OfPost w (tabDe ws stage level f page) 0) := by
  obtain ⟨hm, hp, hi, hs, -⟩ := tab_parts h
  have hlen := memOk_len hm
  obtain ⟨k, hk⟩ : ∃ k : Nat, idxOf level page = k := ⟨(idxOf level page).toNat, by have := idxOf_range level page; omega⟩
  have hk8 : k < 8 := by have := idxOf_range level page; omega
  have HX := Lib.hid (fun W => index_any level page W)
  simp only [hi, if_true] at HX
  have HC := Lib.hid (fun W => memCheck_any A ws.length c W (by omega) true hm)
  have HF := Lib.hid (fun W (hb : Below w.heap.size w W) => Frame_yes A c ws f W (by omega) hA.cap (hA.at_.below hb) (ask_in hm hf) hf)
  have HO := Lib.hid (fun W => of_yes stage level (wAt ws (f * 8 + k)) (wAt_range hA.u64 _) hp W)
  have hfl := frame_len ws f hf
  have HWK := Lib.hid (show ∀ h : k < (frameOf ws f).length, (frameOf ws f)[k]'h = wAt ws (f * 8 + k) from fun h => frameOf_at ws f k hk8 hf h)
  unfold tabDe
  rw [hk] at HX ⊢
  generalize ofDe stage level _ = d at *
  generalize wAt ws _ = x at *
  have HFL := Lib.hid hfl
  rw [hfl] at HF
  clear h hm hp hi hlen hfl hk
  obtain ⟨dk, df, dr, dw, dx, daf, dng, dso, dno⟩ := d
  unfold OfPost deV at HO
  dsimp only [De.cells] at *
  rcases hs with rfl | rfl
  all_goals
    go_enter Try.func14, Try.ntmps14
    go_wp2_with fail
    refine Calls.mono (HX.out _) ?_
    rintro e w1 ⟨rfl, hb1⟩
    have hs1 := hb1.size
    try simp at hs1
    have hc1_0 := fun o => (bcell hb1).1 (w.heap.size) o (by first | omega | (simp; done) | (simp; omega))
    have hf1_0 := fun o => (bcell hb1).2.1 (w.heap.size) o (by first | omega | (simp; done) | (simp; omega))
    have hz1_0 := (bcell hb1).2.2 (w.heap.size) (by first | omega | (simp; done) | (simp; omega))
    have hc1_1 := fun o => (bcell hb1).1 (w.heap.size + 1) o (by first | omega | (simp; done) | (simp; omega))
    have hf1_1 := fun o => (bcell hb1).2.1 (w.heap.size + 1) o (by first | omega | (simp; done) | (simp; omega))
    have hz1_1 := (bcell hb1).2.2 (w.heap.size + 1) (by first | omega | (simp; done) | (simp; omega))
    have HB1 := Lib.hid hb1
    clear hb1
    go_wp2_with fail
    refine Calls.mono (HC.out _) ?_
    rintro e w2 ⟨rfl, hb2⟩
    have hs2 := hb2.size
    try simp at hs2
    have hc2_0 := fun o => (bcell hb2).1 (w.heap.size) o (by first | omega | (simp; done) | (simp; omega))
    have hf2_0 := fun o => (bcell hb2).2.1 (w.heap.size) o (by first | omega | (simp; done) | (simp; omega))
    have hz2_0 := (bcell hb2).2.2 (w.heap.size) (by first | omega | (simp; done) | (simp; omega))
    have hc2_1 := fun o => (bcell hb2).1 (w.heap.size + 1) o (by first | omega | (simp; done) | (simp; omega))
    have hf2_1 := fun o => (bcell hb2).2.1 (w.heap.size + 1) o (by first | omega | (simp; done) | (simp; omega))
    have hz2_1 := (bcell hb2).2.2 (w.heap.size + 1) (by first | omega | (simp; done) | (simp; omega))
    have HB2 := Lib.hid hb2
    clear hb2
    go_wp2_with fail
    refine Calls.mono (HF.out _ (by repeat' (first | (with_reducible exact Below.refl _ _) | (with_reducible (refine Below.setCell ?_ ?_ _)) | (with_reducible (refine Below.alloc ?_ ?_ _)) | (with_reducible (refine Below.drew ?_)) | (with_reducible (refine below_via ?_ HB2.out ?_)) | (with_reducible (refine below_via ?_ HB1.out ?_)) | omega | (simp; done) | (simp; omega)))) ?_
    rintro e w3 ⟨A', c', rfl, hown, hb3⟩
    have hs3 := hb3.size
    try simp at hs3
    have hc3_0 := fun o => (bcell hb3).1 (w.heap.size) o (by first | omega | (simp; done) | (simp; omega))
    have hf3_0 := fun o => (bcell hb3).2.1 (w.heap.size) o (by first | omega | (simp; done) | (simp; omega))
    have hz3_0 := (bcell hb3).2.2 (w.heap.size) (by first | omega | (simp; done) | (simp; omega))
    have hc3_1 := fun o => (bcell hb3).1 (w.heap.size + 1) o (by first | omega | (simp; done) | (simp; omega))
    have hf3_1 := fun o => (bcell hb3).2.1 (w.heap.size + 1) o (by first | omega | (simp; done) | (simp; omega))
    have hz3_1 := (bcell hb3).2.2 (w.heap.size + 1) (by first | omega | (simp; done) | (simp; omega))
    have HB3 := Lib.hid hb3
    clear hb3
    have Hhown := Lib.hid hown
    clear hown
    obtain ⟨g, rfl, hg1, hg2, hg3⟩ := Hhown.out.spot (by rw [HFL.out]; decide)
    have hcl := Hhown.out.cell word_len (i := k) (by rw [HFL.out]; exact hk8) (j := 0) (u := .int .u64 x) (by rw [HWK.out]; rfl)
    simp only [Nat.mul_one, Nat.add_zero] at hcl
    have hk8i : (k : Int) < 8 := by omega
    go_wp2_with fail
    refine Calls.mono (HO.out _) ?_
    rintro e w4 ⟨rfl, hb4⟩
    have hs4 := hb4.size
    try simp at hs4
    have hc4_0 := fun o => (bcell hb4).1 (w.heap.size) o (by first | omega | (simp; done) | (simp; omega))
    have hf4_0 := fun o => (bcell hb4).2.1 (w.heap.size) o (by first | omega | (simp; done) | (simp; omega))
    have hz4_0 := (bcell hb4).2.2 (w.heap.size) (by first | omega | (simp; done) | (simp; omega))
    have hc4_1 := fun o => (bcell hb4).1 (w.heap.size + 1) o (by first | omega | (simp; done) | (simp; omega))
    have hf4_1 := fun o => (bcell hb4).2.1 (w.heap.size + 1) o (by first | omega | (simp; done) | (simp; omega))
    have hz4_1 := (bcell hb4).2.2 (w.heap.size + 1) (by first | omega | (simp; done) | (simp; omega))
    have HB4 := Lib.hid hb4
    clear hb4
    go_wp2
    refine bodyPost_ret (v := .tuple #[.agg #[.int .i64 dk, .int .i64 df, .bool dr, .bool dw, .bool dx, .bool daf, .bool dng, .int .i64 dso, .int .i64 dno], .int .i64 0]) (by simp [results, Try.results14, go_sem, *]) rfl ⟨rfl, ?_⟩
    repeat' (first | (with_reducible exact Below.refl _ _) | (with_reducible (refine Below.setCell ?_ ?_ _)) | (with_reducible (refine Below.alloc ?_ ?_ _)) | (with_reducible (refine Below.drew ?_)) | (with_reducible (refine below_via ?_ HB4.out ?_)) | (with_reducible (refine below_via ?_ HB3.out ?_)) | (with_reducible (refine below_via ?_ HB2.out ?_)) | (with_reducible (refine below_via ?_ HB1.out ?_)) | omega | (simp; done) | (simp; omega))

end Go.Proofs.Ytddbndmbcdeggaa
