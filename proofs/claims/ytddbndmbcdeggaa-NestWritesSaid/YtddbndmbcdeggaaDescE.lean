/-
  Check; a field of one bit; the fields of a descriptor that may be. Conditions: the descriptor may be.
-/
import Derived.Test.YtddbndmbcdeggaaDescD
import Derived.Test.YtddbndmbcdeggaaMore
namespace Go.Proofs.Ytddbndmbcdeggaa
open Go.RowKit

def checkDe (stage level : Int) (d : De) : Bool := placeOk stage level && mayDe stage level d
theorem placeOk_level {stage level : Int} (h : placeOk stage level = true) : 0 ≤ level ∧ level ≤ 3 := by
  simp [placeOk] at h; omega
theorem placeOk_stage {stage level : Int} (h : placeOk stage level = true) : stage = 1 ∨ stage = 2 := by
  simp [placeOk] at h; exact h.1

set_option maxRecDepth 100000 in
set_option maxHeartbeats 2000000 in
theorem check_any (stage level : Int) (d : De) (w : World) :
    Calls Try.prog 77 #[.int .i64 stage, .int .i64 level, .agg d.cells.toArray] w fun e w' => e = .returned (.int .i64 (if checkDe stage level d then 0 else 1)) ∧ Below w.heap.size w w' := by
  have HT := Lib.hid (fun W => there_any stage level W)
  have HM := Lib.hid (fun (h : placeOk stage level = true) W => may_any stage level d (placeOk_level h).1 (placeOk_level h).2 W)
  obtain ⟨kind, frame, r, dw, x, af, ng, soft, note⟩ := d
  unfold checkDe
  dsimp only [De.cells] at *
  generalize mayDe _ _ _ = m at *
  generalize placeOk stage level = p at *
  cases p
  · go_enter Try.func77, Try.ntmps77
    go_wp2_with fail
    refine Calls.mono (HT.out _) ?_
    rintro e w1 ⟨rfl, hb1⟩
    have hs1 := hb1.size
    try simp at hs1
    have hc1_0 := fun o => (bcell hb1).1 (w.heap.size) o (by first | omega | (simp; done) | (simp; omega))
    have hf1_0 := fun o => (bcell hb1).2.1 (w.heap.size) o (by first | omega | (simp; done) | (simp; omega))
    have hz1_0 := (bcell hb1).2.2 (w.heap.size) (by first | omega | (simp; done) | (simp; omega))
    have hc1_1 := fun o => (bcell hb1).1 (w.heap.size + 1) o (by first | omega | (simp; done) | (simp; omega))
    have hf1_1 := fun o => (bcell hb1).2.1 (w.heap.size + 1) o (by first | omega | (simp; done) | (simp; omega))
    have hz1_1 := (bcell hb1).2.2 (w.heap.size + 1) (by first | omega | (simp; done) | (simp; omega))
    have HB1 := Lib.hid hb1
    clear hb1
    go_wp2
    go_ret
    exact ⟨rfl, (by repeat' (first | (with_reducible exact Below.refl _ _) | (with_reducible (refine Below.setCell ?_ ?_ _)) | (with_reducible (refine Below.alloc ?_ ?_ _)) | (with_reducible (refine Below.drew ?_)) | (with_reducible (refine below_via ?_ HB1.out ?_)) | omega | (simp; done) | (simp; omega)))⟩
  · cases m
    all_goals
      go_enter Try.func77, Try.ntmps77
      go_wp2_with fail
      refine Calls.mono (HT.out _) ?_
      rintro e w1 ⟨rfl, hb1⟩
      have hs1 := hb1.size
      try simp at hs1
      have hc1_0 := fun o => (bcell hb1).1 (w.heap.size) o (by first | omega | (simp; done) | (simp; omega))
      have hf1_0 := fun o => (bcell hb1).2.1 (w.heap.size) o (by first | omega | (simp; done) | (simp; omega))
      have hz1_0 := (bcell hb1).2.2 (w.heap.size) (by first | omega | (simp; done) | (simp; omega))
      have hc1_1 := fun o => (bcell hb1).1 (w.heap.size + 1) o (by first | omega | (simp; done) | (simp; omega))
      have hf1_1 := fun o => (bcell hb1).2.1 (w.heap.size + 1) o (by first | omega | (simp; done) | (simp; omega))
      have hz1_1 := (bcell hb1).2.2 (w.heap.size + 1) (by first | omega | (simp; done) | (simp; omega))
      have HB1 := Lib.hid hb1
      clear hb1
      go_wp2_with fail
      refine Calls.mono (HM.out trivial _) ?_
      rintro e w2 ⟨rfl, hb2⟩
      have hs2 := hb2.size
      try simp at hs2
      have HB2 := Lib.hid hb2
      clear hb2
      go_wp2
      go_ret
      exact ⟨rfl, (by repeat' (first | (with_reducible exact Below.refl _ _) | (with_reducible (refine Below.setCell ?_ ?_ _)) | (with_reducible (refine Below.alloc ?_ ?_ _)) | (with_reducible (refine Below.drew ?_)) | (with_reducible (refine below_via ?_ HB2.out ?_)) | (with_reducible (refine below_via ?_ HB1.out ?_)) | omega | (simp; done) | (simp; omega)))⟩

def fdBit (at_ : Int) (on : Bool) : Fd := ⟨at_, 1, if on then 1 else 0⟩
set_option maxRecDepth 100000 in
set_option maxHeartbeats 1000000 in
theorem bit_any (at_ : Int) (on : Bool) (w : World) :
    Calls Try.prog 89 #[.int .i64 at_, .bool on] w fun e w' => e = .returned (.agg #[.int .i64 at_, .int .i64 1, .int .u64 (fdBit at_ on).v]) ∧ Below w.heap.size w w' := by
  cases on
  all_goals
    go_enter Try.func89, Try.ntmps89
    go_wp2
    refine bodyPost_ret (v := .agg #[.int .i64 at_, .int .i64 1, .int .u64 _]) (by simp [results, Try.results89, go_sem, *]; rfl) rfl ⟨rfl, (by repeat' (first | (with_reducible exact Below.refl _ _) | (with_reducible (refine Below.setCell ?_ ?_ _)) | (with_reducible (refine Below.alloc ?_ ?_ _)) | (with_reducible (refine Below.drew ?_)) | omega | (simp; done) | (simp; omega)))⟩
set_option maxRecDepth 100000 in
set_option maxHeartbeats 1000000 in
theorem rbit_any (at_ : Int) (on : Bool) (w : World) :
    Calls Try.prog 81 #[.int .i64 at_, .bool on] w fun e w' => e = .returned (.agg #[.int .i64 at_, .int .i64 1, .int .u64 (fdBit at_ on).v]) ∧ Below w.heap.size w w' := by
  cases on
  all_goals
    go_enter Try.func81, Try.ntmps81
    go_wp2
    refine bodyPost_ret (v := .agg #[.int .i64 at_, .int .i64 1, .int .u64 _]) (by simp [results, Try.results81, go_sem, *]; rfl) rfl ⟨rfl, (by repeat' (first | (with_reducible exact Below.refl _ _) | (with_reducible (refine Below.setCell ?_ ?_ _)) | (with_reducible (refine Below.alloc ?_ ?_ _)) | (with_reducible (refine Below.drew ?_)) | omega | (simp; done) | (simp; omega)))⟩

def fieldsOne (level : Int) (d : De) : List Fd := [fdBit 0 true, fdBit 1 (d.kind == 1 || level == 3), ⟨12, 12, d.frame⟩]
def fieldsTwo (d : De) : List Fd := [fdBit 10 d.af, fdBit 54 (!d.x)]
def fieldsThree (stage : Int) (d : De) : List Fd := if stage = 1 then [fdBit 7 (!d.w), fdBit 11 d.ng] else [fdBit 6 d.r, fdBit 7 d.w, ⟨55, 4, d.soft⟩]
def fieldsDe (stage level : Int) (d : De) : List Fd := if d.kind = 0 then [⟨4, 4, d.note⟩] else if d.kind = 1 then fieldsOne level d else fieldsOne level d ++ fieldsTwo d ++ fieldsThree stage d

theorem field_info : (Try.prog.info? fieldT).map (fun i => (i.zero, i.size, i.bytes)) = some (some (.agg #[.int .i64 0, .int .i64 0, .int .u64 0]), 3, 24) := by kernel_rfl

/-- What of one that may be lies within bounds. -/
theorem mayDe_note {stage level : Int} {d : De} (h : mayDe stage level d = true) (hk : d.kind = 0) : 0 ≤ d.note ∧ d.note ≤ 15 := by
  rw [rul_none hk] at h
  simp [rulNone, numOk] at h
  exact h.2.1
theorem mayDe_frame {stage level : Int} {d : De} (h : mayDe stage level d = true) (hk : d.kind ≠ 0) : 0 ≤ d.frame ∧ d.frame ≤ 4095 := by
  unfold mayDe at h
  rw [if_neg hk] at h
  split at h
  · simp [frameOk] at h; omega
  · split at h
    · simp [frameOk] at h; omega
    · cases h
theorem mayDe_soft {stage level : Int} {d : De} (h : mayDe stage level d = true) (hk : d.kind = 2) : 0 ≤ d.soft ∧ d.soft ≤ 15 := by
  unfold mayDe at h
  rw [if_neg (by omega), if_neg (by omega), if_pos hk] at h
  simp at h; omega
theorem mayDe_kind {stage level : Int} {d : De} (h : mayDe stage level d = true) : d.kind = 0 ∨ d.kind = 1 ∨ d.kind = 2 := by
  unfold mayDe at h
  split at h
  · exact .inl ‹_›
  · split at h
    · exact .inr (.inl ‹_›)
    · split at h
      · exact .inr (.inr ‹_›)
      · cases h

theorem fd_one (a : Fd) : ∀ u ∈ a.cells, u.oneCell' = true := by
  intro u hu
  simp [Fd.cells] at hu
  rcases hu with rfl | rfl | rfl <;> rfl

/-- What comes of 'fields'. -/
def FieldsPost (w : World) (l : List Fd) (e : Ending) (w' : World) : Prop := ∃ A c, e = .returned (.slice A l.length c) ∧ At w' A 3 Fd.cells l ∧ Below w.heap.size w w'

set_option maxRecDepth 100000 in
set_option maxHeartbeats 4000000 in
theorem fields_any (stage level : Int) (d : De) (h : mayDe stage level d = true) (w : World) :
    Calls Try.prog 79 #[.agg (.int .i64 stage :: .int .i64 level :: d.cells).toArray] w (FieldsPost w (fieldsDe stage level d)) := by
  have hn := mayDe_note h
  have hf := mayDe_frame h
  have hs := mayDe_soft h
  have hk := mayDe_kind h
  have HB := Lib.hid bit_any
  obtain ⟨kind, frame, r, dw, x, af, ng, soft, note⟩ := d
  clear h
  unfold fieldsDe
  dsimp only [De.cells] at *
  rcases hk with rfl | rfl | rfl
  · obtain ⟨hn0, hn1⟩ := hn rfl
    clear hf hs hn
    rw [if_pos rfl]
    go_enter Try.func79, Try.ntmps79
    go_wp2
    go_ret
    exact ⟨_, _, rfl, Own.at_ (Own.lit_at (base := w.heap.size) (e := fieldT) _ [⟨4, 4, note⟩] fd_len (by simp) (by simp [maxLen]) (by simp)) fd_len, (by repeat' (first | (with_reducible exact Below.refl _ _) | (with_reducible (refine Below.setCell ?_ ?_ _)) | (with_reducible (refine Below.alloc ?_ ?_ _)) | (with_reducible (refine Below.drew ?_)) | omega | (simp; done) | (simp; omega)))⟩
  · obtain ⟨hf0, hf1⟩ := hf (by decide)
    clear hf hs hn
    rw [if_neg (by decide), if_pos rfl]
    go_enter Try.func79, Try.ntmps79
    go_wp2_with fail
    refine wp_region_class_tail 14 (fun w' => Below (w.heap.size + 1) (w.alloc (.cells #[.int .i64 stage, .int .i64 level, .int .i64 1, .int .i64 frame, .bool r, .bool dw, .bool x, .bool af, .bool ng, .int .i64 soft, .int .i64 note] 120)) w') (by kernel_rfl) (by kernel_rfl) (by kernel_rfl) (Below.refl _ _).drew ?_
    repeat (first
      | (refine wpLex_pass (by rfl) passes_plain ?_; (conv => arg 9; simp only [put_lit, put_lit_none, List.set]))
      | (refine wpLex_plain (by rfl) ?_
         apply Exists.intro
         refine ⟨?_, ?_⟩
         · intro w' hb
           have hsz := hb.size
           try simp at hsz
           have hcw := fun b o (h : b < w.heap.size + 1) => hb.cell (p := ⟨b, o, none⟩) h
           have hfw := fun b o (h : b < w.heap.size + 1) => hb.frozen (p := ⟨b, o, none⟩) h
           go_simp
           first
             | exact ⟨rfl, hb⟩
             | exact rfl
             | ((with_reducible refine Calls.mono (HB.out _ _ _) ?_); rintro e w2 ⟨rfl, hb2⟩; exact ⟨_, rfl, rfl, hb.trans (hb2.mono hsz)⟩)
         conv => arg 9; simp only [put_lit, put_lit_none, List.set]))
    refine wpLex_nil ?_
    intro wp hbp
    have hsp := hbp.size
    try simp at hsp
    have hcp := fun b o (h : b < w.heap.size + 1) => hbp.cell (p := ⟨b, o, none⟩) h
    have hfp := fun b o (h : b < w.heap.size + 1) => hbp.frozen (p := ⟨b, o, none⟩) h
    have HBp := Lib.hid hbp
    clear hbp
    simp only [List.drop]
    have hlp : w.heap.size < wp.heap.size := by omega
    have hnp : ¬ w.heap.size = wp.heap.size := by omega
    go_wp2
    go_ret
    exact ⟨_, _, rfl, Own.at_ (Own.lit (base := w.heap.size) (e := fieldT) _ (fieldsOne level ⟨1, frame, r, dw, x, af, ng, soft, note⟩) fd_len (by omega) (by simp [fieldsOne, maxLen])) fd_len, (by repeat' (first | (with_reducible exact Below.refl _ _) | (with_reducible (refine Below.setCell ?_ ?_ _)) | (with_reducible (refine Below.alloc ?_ ?_ _)) | (with_reducible (refine Below.drew ?_)) | (with_reducible (refine below_via ?_ HBp.out ?_)) | omega | (simp; done) | (simp; omega)))⟩
  · obtain ⟨hf0, hf1⟩ := hf (by decide)
    obtain ⟨hs0, hs1⟩ := hs rfl
    clear hf hs hn
    rw [if_neg (by decide), if_neg (by decide)]
    obtain ⟨i0, hi0, hz0, hz1, hz2⟩ := info_parts field_info
    go_enter Try.func79, Try.ntmps79
    go_wp2_with fail
    refine wp_region_class_tail 14 (fun w' => Below (w.heap.size + 1) (w.alloc (.cells #[.int .i64 stage, .int .i64 level, .int .i64 2, .int .i64 frame, .bool r, .bool dw, .bool x, .bool af, .bool ng, .int .i64 soft, .int .i64 note] 120)) w') (by kernel_rfl) (by kernel_rfl) (by kernel_rfl) (Below.refl _ _).drew ?_
    repeat (first
      | (refine wpLex_pass (by rfl) passes_plain ?_; (conv => arg 9; simp only [put_lit, put_lit_none, List.set]))
      | (refine wpLex_plain (by rfl) ?_
         apply Exists.intro
         refine ⟨?_, ?_⟩
         · intro w' hb
           have hsz := hb.size
           try simp at hsz
           have hcw := fun b o (h : b < w.heap.size + 1) => hb.cell (p := ⟨b, o, none⟩) h
           have hfw := fun b o (h : b < w.heap.size + 1) => hb.frozen (p := ⟨b, o, none⟩) h
           go_simp
           first
             | exact ⟨rfl, hb⟩
             | exact rfl
             | ((with_reducible refine Calls.mono (HB.out _ _ _) ?_); rintro e w2 ⟨rfl, hb2⟩; exact ⟨_, rfl, rfl, hb.trans (hb2.mono hsz)⟩)
         conv => arg 9; simp only [put_lit, put_lit_none, List.set]))
    refine wpLex_nil ?_
    intro wp hbp
    have hsp := hbp.size
    try simp at hsp
    have hcp := fun b o (h : b < w.heap.size + 1) => hbp.cell (p := ⟨b, o, none⟩) h
    have hfp := fun b o (h : b < w.heap.size + 1) => hbp.frozen (p := ⟨b, o, none⟩) h
    have HBp := Lib.hid hbp
    clear hbp
    simp only [List.drop]
    have hlp : w.heap.size < wp.heap.size := by omega
    have hnp : ¬ w.heap.size = wp.heap.size := by omega
    go_wp2_with fail
    refine name_world ?_
    intro w2 hw2
    have HO1 := Lib.hid (show Own w2 (w.heap.size + 1) fieldT 3 Fd.cells (fieldsOne level ⟨2, frame, r, dw, x, af, ng, soft, note⟩) (some ⟨wp.heap.size, 0, none⟩) 3 by rw [hw2]; exact Own.lit_at wp (fieldsOne level ⟨2, frame, r, dw, x, af, ng, soft, note⟩) fd_len (by omega) (by simp [fieldsOne, maxLen]) rfl)
    have hs2 : w.heap.size + 1 ≤ w2.heap.size := by rw [hw2]; simp; omega
    have HB2 := Lib.hid (show Below (w.heap.size + 1) (w.alloc (.cells #[.int .i64 stage, .int .i64 level, .int .i64 2, .int .i64 frame, .bool r, .bool dw, .bool x, .bool af, .bool ng, .int .i64 soft, .int .i64 note] 120)) w2 by rw [hw2]; exact HBp.out.alloc (by omega) _)
    have hy2 : w2.heap[w.heap.size]? = some (.cells #[.int .i64 stage, .int .i64 level, .int .i64 2, .int .i64 frame, .bool r, .bool dw, .bool x, .bool af, .bool ng, .int .i64 soft, .int .i64 note] 120 (0, 0)) := (HB2.out.block _ (by omega)).trans (heap_new _ _)
    have cy := fun j => cell_of_row _ _ j _ _ _ hy2
    have HY2 := Lib.hid hy2
    have hy0 := heap_lt hy2
    clear hw2 hy2 hcp hfp hsp hlp hnp
    refine wp_region_lex_tail 13 [51] (NewC (w2) 51 12 (fun g => .slice (some ⟨g, 0, none⟩) 2 2) (fieldT) (#[.int .i64 10, .int .i64 1, .int .u64 (fdBit 10 af).v, .int .i64 54, .int .i64 1, .int .u64 (fdBit 54 (!x)).v])) newC_looks (by kernel_rfl) (by kernel_rfl) (by kernel_rfl) (by kernel_rfl) (newC_start _) ?_
    repeat (first
      | (refine wpLex_pass (by rfl) (passes_new (by decide) (by rfl)) ?_; (conv => arg 9; simp only [put_lit, put_lit_none, List.set]))
      | (refine wpLex_new (by rfl) (by rfl) (by decide) (by rfl) ?_
         apply Exists.intro
         refine ⟨?_, ?_⟩
         · intro w' hb
           have hsz := hb.size
           try simp at hsz
           have hcw := fun b o (h : b < (w2).heap.size) => hb.cell (p := ⟨b, o, none⟩) h
           have hfw := fun b o (h : b < (w2).heap.size) => hb.frozen (p := ⟨b, o, none⟩) h
           go_simp
           first
             | exact ⟨rfl, Below.refl _ _⟩
             | exact Below.refl _ _
             | ((with_reducible refine (HB.out _ _ _).mono ?_); rintro e w2 ⟨rfl, hb2⟩; first | exact ⟨_, rfl, rfl, hb2⟩ | exact ⟨rfl, hb2⟩)
         conv => arg 9; simp only [put_lit, put_lit_none, List.set])
      | (refine wpLex_want undef (by rfl) (comes_new rfl (by simp) rfl (by decide) (fun w _ => by go_simp; rfl)) ?_; (conv => arg 9; simp only [put_lit, put_lit_none, List.set])))
    refine wpLex_nil ?_
    intro wq bq dq hdq hCq hoq
    obtain ⟨gq, rfl, hgq, hxq, hbq⟩ := newC_end hCq (hdq 12 (by decide)) hoq
    clear hCq hdq hoq
    simp only [put_lit, List.set]
    have hsq := hbq.size
    try simp at hsq hgq
    have hlq := heap_lt hxq
    have hcq := fun b o (h : b < (w2).heap.size) => hbq.cell (p := ⟨b, o, none⟩) h
    have hfq := fun b o (h : b < (w2).heap.size) => hbq.frozen (p := ⟨b, o, none⟩) h
    have HBq := Lib.hid hbq
    have HXq := Lib.hid hxq
    clear hbq hxq
    simp only [List.drop]
    by_cases hst : stage = 1
    · subst hst
      go_wp2_with (at_builtin; refine wpList_more rfl (.tmp 39) (.tmp 51) _ rfl (w.heap.size + 1) fieldT i0 _ 3 24 Try.underlying118 hi0 hz0 hz1 hz2 rfl (by omega) fd_len fd_one (fieldsOne level ⟨2, frame, r, dw, x, af, ng, soft, note⟩) (fieldsTwo ⟨2, frame, r, dw, x, af, ng, soft, note⟩) _ _ _ gq rfl (HO1.out.below HBq.out (Nat.le_refl _)) rfl (HXq.out) (by first | decide | (simp [fieldsOne, fieldsTwo, maxLen]; done)) (by first | decide | (simp [fieldsOne, fieldsTwo]; done)) (by omega) ?_; intro A3 c3 w3 ho3 hb3; have HO3 := Lib.hid ho3; have HB3 := Lib.hid hb3; have hs3 := hb3.size; (try simp at hs3); have hc3 := fun b o (h : b < w.heap.size + 1) => hb3.cell (p := ⟨b, o, none⟩) h; have hf3 := fun b o (h : b < w.heap.size + 1) => hb3.frozen (p := ⟨b, o, none⟩) h; clear ho3 hb3)
      have hy3 : w3.heap[w.heap.size]? = some (.cells #[.int .i64 1, .int .i64 level, .int .i64 2, .int .i64 frame, .bool r, .bool dw, .bool x, .bool af, .bool ng, .int .i64 soft, .int .i64 note] 120 (0, 0)) := (HB3.out.block _ (by omega)).trans ((HBq.out.block _ (by omega)).trans HY2.out)
      have cy3 := fun j => cell_of_row _ _ j _ _ _ hy3
      have hy30 := heap_lt hy3
      clear hy3 hc3 hf3 hcq hfq cy
      refine wp_region_lex_tail 13 [69] (NewC (w3) 69 12 (fun g => .slice (some ⟨g, 0, none⟩) 2 2) (fieldT) (#[.int .i64 7, .int .i64 1, .int .u64 (fdBit 7 (!dw)).v, .int .i64 11, .int .i64 1, .int .u64 (fdBit 11 ng).v])) newC_looks (by kernel_rfl) (by kernel_rfl) (by kernel_rfl) (by kernel_rfl) (newC_start _) ?_
      repeat (first
        | (refine wpLex_pass (by rfl) (passes_new (by decide) (by rfl)) ?_; (conv => arg 9; simp only [put_lit, put_lit_none, List.set]))
        | (refine wpLex_new (by rfl) (by rfl) (by decide) (by rfl) ?_
           apply Exists.intro
           refine ⟨?_, ?_⟩
           · intro w' hb
             have hsz := hb.size
             try simp at hsz
             have hcw := fun b o (h : b < (w3).heap.size) => hb.cell (p := ⟨b, o, none⟩) h
             have hfw := fun b o (h : b < (w3).heap.size) => hb.frozen (p := ⟨b, o, none⟩) h
             go_simp
             first
               | exact ⟨rfl, Below.refl _ _⟩
               | exact Below.refl _ _
               | ((with_reducible refine (HB.out _ _ _).mono ?_); rintro e w2 ⟨rfl, hb2⟩; first | exact ⟨_, rfl, rfl, hb2⟩ | exact ⟨rfl, hb2⟩)
           conv => arg 9; simp only [put_lit, put_lit_none, List.set])
        | (refine wpLex_want undef (by rfl) (comes_new rfl (by simp) rfl (by decide) (fun w _ => by go_simp; rfl)) ?_; (conv => arg 9; simp only [put_lit, put_lit_none, List.set])))
      refine wpLex_nil ?_
      intro wt bt dt hdt hCt hot
      obtain ⟨gt, rfl, hgt, hxt, hbt⟩ := newC_end hCt (hdt 12 (by decide)) hot
      clear hCt hdt hot
      simp only [put_lit, List.set]
      have hst := hbt.size
      try simp at hst hgt
      have hlt := heap_lt hxt
      have hct := fun b o (h : b < (w3).heap.size) => hbt.cell (p := ⟨b, o, none⟩) h
      have hft := fun b o (h : b < (w3).heap.size) => hbt.frozen (p := ⟨b, o, none⟩) h
      have HBt := Lib.hid hbt
      have HXt := Lib.hid hxt
      clear hbt hxt
      simp only [List.drop]
      go_wp2_with (at_builtin; refine wpList_more rfl (.tmp 57) (.tmp 69) _ rfl (w.heap.size + 1) fieldT i0 _ 3 24 Try.underlying118 hi0 hz0 hz1 hz2 rfl (by omega) fd_len fd_one (fieldsOne level ⟨2, frame, r, dw, x, af, ng, soft, note⟩ ++ fieldsTwo ⟨2, frame, r, dw, x, af, ng, soft, note⟩) ([fdBit 7 (!dw), fdBit 11 ng]) _ _ _ gt rfl (HO3.out.below HBt.out (Nat.le_refl _)) rfl (HXt.out) (by first | decide | (simp [fieldsOne, fieldsTwo, maxLen]; done)) (by first | decide | (simp [fieldsOne, fieldsTwo]; done)) (by omega) ?_; intro A5 c5 w5 ho5 hb5; have HO5 := Lib.hid ho5; have HB5 := Lib.hid hb5; have hs5 := hb5.size; (try simp at hs5); have hc5 := fun b o (h : b < w.heap.size + 1) => hb5.cell (p := ⟨b, o, none⟩) h; have hf5 := fun b o (h : b < w.heap.size + 1) => hb5.frozen (p := ⟨b, o, none⟩) h; clear ho5 hb5)
      go_wp2
      go_ret
      exact ⟨A5, c5, rfl, by unfold fieldsThree; rw [if_pos rfl]; exact HO5.out.at_ fd_len, (by repeat' (first | (with_reducible exact Below.refl _ _) | (with_reducible (refine Below.setCell ?_ ?_ _)) | (with_reducible (refine Below.alloc ?_ ?_ _)) | (with_reducible (refine Below.drew ?_)) | (with_reducible (refine below_via ?_ HB5.out ?_)) | (with_reducible (refine below_via ?_ HBt.out ?_)) | (with_reducible (refine below_via ?_ HB3.out ?_)) | (with_reducible (refine below_via ?_ HBq.out ?_)) | (with_reducible (refine below_via ?_ HB2.out ?_)) | omega | (simp; done) | (simp; omega)))⟩
    · have hu : IntKind.u64.wrap soft = soft := by rw [IntKind.wrap_u64]; omega
      have hst' : (stage == 1) = false := by simpa using hst
      have HST := Lib.hid hst
      clear hst
      go_wp2_with (at_builtin; refine wpList_more rfl (.tmp 39) (.tmp 51) _ rfl (w.heap.size + 1) fieldT i0 _ 3 24 Try.underlying118 hi0 hz0 hz1 hz2 rfl (by omega) fd_len fd_one (fieldsOne level ⟨2, frame, r, dw, x, af, ng, soft, note⟩) (fieldsTwo ⟨2, frame, r, dw, x, af, ng, soft, note⟩) _ _ _ gq rfl (HO1.out.below HBq.out (Nat.le_refl _)) rfl (HXq.out) (by first | decide | (simp [fieldsOne, fieldsTwo, maxLen]; done)) (by first | decide | (simp [fieldsOne, fieldsTwo]; done)) (by omega) ?_; intro A3 c3 w3 ho3 hb3; have HO3 := Lib.hid ho3; have HB3 := Lib.hid hb3; have hs3 := hb3.size; (try simp at hs3); have hc3 := fun b o (h : b < w.heap.size + 1) => hb3.cell (p := ⟨b, o, none⟩) h; have hf3 := fun b o (h : b < w.heap.size + 1) => hb3.frozen (p := ⟨b, o, none⟩) h; clear ho3 hb3)
      have hy3 : w3.heap[w.heap.size]? = some (.cells #[.int .i64 stage, .int .i64 level, .int .i64 2, .int .i64 frame, .bool r, .bool dw, .bool x, .bool af, .bool ng, .int .i64 soft, .int .i64 note] 120 (0, 0)) := (HB3.out.block _ (by omega)).trans ((HBq.out.block _ (by omega)).trans HY2.out)
      have cy3 := fun j => cell_of_row _ _ j _ _ _ hy3
      have hy30 := heap_lt hy3
      clear hy3 hc3 hf3 hcq hfq cy
      refine wp_region_lex_tail 18 [88] (NewC (w3) 88 17 (fun g => .slice (some ⟨g, 0, none⟩) 3 3) (fieldT) (#[.int .i64 6, .int .i64 1, .int .u64 (fdBit 6 r).v, .int .i64 7, .int .i64 1, .int .u64 (fdBit 7 dw).v, .int .i64 55, .int .i64 4, .int .u64 soft])) newC_looks (by kernel_rfl) (by kernel_rfl) (by kernel_rfl) (by kernel_rfl) (newC_start _) ?_
      repeat (first
        | (refine wpLex_pass (by rfl) (passes_new (by decide) (by rfl)) ?_; (conv => arg 9; simp only [put_lit, put_lit_none, List.set]))
        | (refine wpLex_new (by rfl) (by rfl) (by decide) (by rfl) ?_
           apply Exists.intro
           refine ⟨?_, ?_⟩
           · intro w' hb
             have hsz := hb.size
             try simp at hsz
             have hcw := fun b o (h : b < (w3).heap.size) => hb.cell (p := ⟨b, o, none⟩) h
             have hfw := fun b o (h : b < (w3).heap.size) => hb.frozen (p := ⟨b, o, none⟩) h
             go_simp
             first
               | exact ⟨rfl, Below.refl _ _⟩
               | exact Below.refl _ _
               | ((with_reducible refine (HB.out _ _ _).mono ?_); rintro e w2 ⟨rfl, hb2⟩; first | exact ⟨_, rfl, rfl, hb2⟩ | exact ⟨rfl, hb2⟩)
           conv => arg 9; simp only [put_lit, put_lit_none, List.set])
        | (refine wpLex_want undef (by rfl) (comes_new rfl (by simp) rfl (by decide) (fun w _ => by go_simp; rfl)) ?_; (conv => arg 9; simp only [put_lit, put_lit_none, List.set])))
      refine wpLex_nil ?_
      intro wt bt dt hdt hCt hot
      obtain ⟨gt, rfl, hgt, hxt, hbt⟩ := newC_end hCt (hdt 17 (by decide)) hot
      clear hCt hdt hot
      simp only [put_lit, List.set]
      have hst := hbt.size
      try simp at hst hgt
      have hlt := heap_lt hxt
      have hct := fun b o (h : b < (w3).heap.size) => hbt.cell (p := ⟨b, o, none⟩) h
      have hft := fun b o (h : b < (w3).heap.size) => hbt.frozen (p := ⟨b, o, none⟩) h
      have HBt := Lib.hid hbt
      have HXt := Lib.hid hxt
      clear hbt hxt
      simp only [List.drop]
      go_wp2_with (at_builtin; refine wpList_more rfl (.tmp 71) (.tmp 88) _ rfl (w.heap.size + 1) fieldT i0 _ 3 24 Try.underlying118 hi0 hz0 hz1 hz2 rfl (by omega) fd_len fd_one (fieldsOne level ⟨2, frame, r, dw, x, af, ng, soft, note⟩ ++ fieldsTwo ⟨2, frame, r, dw, x, af, ng, soft, note⟩) ([fdBit 6 r, fdBit 7 dw, ⟨55, 4, soft⟩]) _ _ _ gt rfl (HO3.out.below HBt.out (Nat.le_refl _)) rfl (HXt.out) (by first | decide | (simp [fieldsOne, fieldsTwo, maxLen]; done)) (by first | decide | (simp [fieldsOne, fieldsTwo]; done)) (by omega) ?_; intro A5 c5 w5 ho5 hb5; have HO5 := Lib.hid ho5; have HB5 := Lib.hid hb5; have hs5 := hb5.size; (try simp at hs5); have hc5 := fun b o (h : b < w.heap.size + 1) => hb5.cell (p := ⟨b, o, none⟩) h; have hf5 := fun b o (h : b < w.heap.size + 1) => hb5.frozen (p := ⟨b, o, none⟩) h; clear ho5 hb5)
      go_wp2
      go_ret
      exact ⟨A5, c5, by unfold fieldsThree; rw [if_neg HST.out]; rfl, by unfold fieldsThree; rw [if_neg HST.out]; exact HO5.out.at_ fd_len, (by repeat' (first | (with_reducible exact Below.refl _ _) | (with_reducible (refine Below.setCell ?_ ?_ _)) | (with_reducible (refine Below.alloc ?_ ?_ _)) | (with_reducible (refine Below.drew ?_)) | (with_reducible (refine below_via ?_ HB5.out ?_)) | (with_reducible (refine below_via ?_ HBt.out ?_)) | (with_reducible (refine below_via ?_ HB3.out ?_)) | (with_reducible (refine below_via ?_ HBq.out ?_)) | (with_reducible (refine below_via ?_ HB2.out ?_)) | omega | (simp; done) | (simp; omega)))⟩

end Go.Proofs.Ytddbndmbcdeggaa
