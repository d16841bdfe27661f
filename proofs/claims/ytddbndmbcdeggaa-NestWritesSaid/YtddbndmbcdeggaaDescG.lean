/-
  The word of a descriptor, as the page tells it. Conditions: it may be.
-/
import Derived.Test.YtddbndmbcdeggaaDescF
namespace Go.Proofs.Ytddbndmbcdeggaa
open Go.RowKit

theorem or_zero_u64 (x : Int) (h : 0 ≤ x ∧ x ≤ 18446744073709551615) : bits .or .u64 0 x = x := by
  obtain ⟨n, rfl⟩ := Int.eq_ofNat_of_zero_le h.1
  have := u64_or_nat 0 n (by decide) (by omega)
  rw [Nat.zero_or] at this
  exact this

set_option maxRecDepth 100000 in
set_option maxHeartbeats 8000000 in
theorem rword_any (stage level : Int) (d : De) (hm : mayDe stage level d = true) (w : World) :
    Calls Try.prog 65 #[.int .i64 stage, .int .i64 level, .agg d.cells.toArray] w fun e w' => e = .returned (.int .u64 (wordDe stage level d)) ∧ Below w.heap.size w w' := by
  have hn := mayDe_note hm
  have hf := mayDe_frame hm
  have hs := mayDe_soft hm
  have hk := mayDe_kind hm
  have HB := Lib.hid rbit_any
  have HJ := Lib.hid (fun A c W hA => rjoin_any A c (fieldsDe stage level d) W (fieldsDe_len _ _ _) hA (fieldsDe_ok hm) (fieldsDe_disj _ _ _))
  unfold wordDe
  obtain ⟨i0, hi0, hz0, hz1, hz2⟩ := info_parts field_info
  clear hm
  obtain ⟨kind, frame, r, dw, x, af, ng, soft, note⟩ := d
  unfold fieldsDe at *
  dsimp only [De.cells] at *
  rcases hk with rfl | rfl | rfl
  · obtain ⟨hn0, hn1⟩ := hn rfl
    clear hf hs hn HJ
    rw [if_pos rfl]
    have hu : IntKind.u64.wrap note = note := by rw [IntKind.wrap_u64]; omega
    have hu2 : IntKind.u64.wrap (note * 2 ^ (4 : Int).toNat) = note * 16 := by rw [IntKind.wrap_u64]; simp; omega
    have HW := Lib.hid (show joinW [⟨4, 4, note⟩] = note * 16 by
      unfold joinW joinStep
      simp only [List.foldl_cons, List.foldl_nil]
      rw [hu2]
      exact or_zero_u64 _ (by omega))
    have hu3 : IntKind.u64.wrap (note * 16) = note * 16 := by rw [IntKind.wrap_u64]; omega
    go_enter Try.func65, Try.ntmps65
    go_wp2
    go_ret
    exact ⟨by rw [HW.out]; rfl, (by repeat' (first | (with_reducible exact Below.refl _ _) | (with_reducible (refine Below.setCell ?_ ?_ _)) | (with_reducible (refine Below.alloc ?_ ?_ _)) | (with_reducible (refine Below.drew ?_)) | omega | (simp; done) | (simp; omega)))⟩
  · obtain ⟨hf0, hf1⟩ := hf (by decide)
    clear hf hs hn
    rw [if_neg (by decide), if_pos rfl] at *
    have hu : IntKind.u64.wrap frame = frame := by rw [IntKind.wrap_u64]; omega
    go_enter Try.func65, Try.ntmps65
    go_wp2_with fail
    refine wp_region_class_tail 13 (fun w' => Below (w.heap.size + 1) (w.alloc (.cells #[.int .i64 1, .int .i64 frame, .bool r, .bool dw, .bool x, .bool af, .bool ng, .int .i64 soft, .int .i64 note] descT)) w') (by kernel_rfl) (by kernel_rfl) (by kernel_rfl) (Below.refl _ _).drew ?_
    repeat (first
      | (refine wpLex_pass (by rfl) passes_plain ?_; (conv => arg 9; simp only [put_lit, put_lit_none, List.set]))
      | (refine wpLex_plain (by rfl) ?_
         apply Exists.intro
         refine ⟨?_, ?_⟩
         · intro w' hb
           have hsz := hb.size
           try simp at hsz
           have hcw := fun b o (h : b < w.heap.size + 1) => hb.cell (p := ⟨b, o, none⟩) h
           have hfw := fun b o (h : b < w.heap.size + 1) => hb.frozen (p := ⟨b, o, none⟩) h
           go_simp
           first
             | exact ⟨rfl, hb⟩
             | exact rfl
             | ((with_reducible refine Calls.mono (HB.out _ _ _) ?_); rintro e w2 ⟨rfl, hb2⟩; exact ⟨_, rfl, rfl, hb.trans (hb2.mono hsz)⟩)
         conv => arg 9; simp only [put_lit, put_lit_none, List.set]))
    refine wpLex_nil ?_
    intro wp hbp
    have hsp := hbp.size
    try simp at hsp
    have hcp := fun b o (h : b < w.heap.size + 1) => hbp.cell (p := ⟨b, o, none⟩) h
    have hfp := fun b o (h : b < w.heap.size + 1) => hbp.frozen (p := ⟨b, o, none⟩) h
    have HBp := Lib.hid hbp
    clear hbp
    simp only [List.drop]
    have hlp : w.heap.size < wp.heap.size := by omega
    have hnp : ¬ w.heap.size = wp.heap.size := by omega
    have HO1 := Lib.hid (Own.lit_at (base := w.heap.size + 1) (e := fieldT) wp (fieldsOne level ⟨1, frame, r, dw, x, af, ng, soft, note⟩) fd_len (by omega) (by simp [fieldsOne, maxLen]) rfl)
    go_wp2_with fail
    refine Calls.mono (HJ.out _ _ _ (HO1.out.at_ fd_len)) ?_
    rintro e w4 ⟨rfl, hb4⟩
    have hs4 := hb4.size
    try simp at hs4
    have HB4 := Lib.hid hb4
    clear hb4
    go_wp2
    go_ret
    exact ⟨rfl, (by repeat' (first | (with_reducible exact Below.refl _ _) | (with_reducible (refine Below.setCell ?_ ?_ _)) | (with_reducible (refine Below.alloc ?_ ?_ _)) | (with_reducible (refine Below.drew ?_)) | (with_reducible (refine below_via ?_ HB4.out ?_)) | (with_reducible (refine below_via ?_ HBp.out ?_)) | omega | (simp; done) | (simp; omega)))⟩
  · obtain ⟨hf0, hf1⟩ := hf (by decide)
    obtain ⟨hs0, hs1⟩ := hs rfl
    clear hf hs hn
    rw [if_neg (by decide), if_neg (by decide)] at *
    have hu : IntKind.u64.wrap frame = frame := by rw [IntKind.wrap_u64]; omega
    go_enter Try.func65, Try.ntmps65
    go_wp2_with fail
    refine wp_region_class_tail 13 (fun w' => Below (w.heap.size + 1) (w.alloc (.cells #[.int .i64 2, .int .i64 frame, .bool r, .bool dw, .bool x, .bool af, .bool ng, .int .i64 soft, .int .i64 note] descT)) w') (by kernel_rfl) (by kernel_rfl) (by kernel_rfl) (Below.refl _ _).drew ?_
    repeat (first
      | (refine wpLex_pass (by rfl) passes_plain ?_; (conv => arg 9; simp only [put_lit, put_lit_none, List.set]))
      | (refine wpLex_plain (by rfl) ?_
         apply Exists.intro
         refine ⟨?_, ?_⟩
         · intro w' hb
           have hsz := hb.size
           try simp at hsz
           have hcw := fun b o (h : b < w.heap.size + 1) => hb.cell (p := ⟨b, o, none⟩) h
           have hfw := fun b o (h : b < w.heap.size + 1) => hb.frozen (p := ⟨b, o, none⟩) h
           go_simp
           first
             | exact ⟨rfl, hb⟩
             | exact rfl
             | ((with_reducible refine Calls.mono (HB.out _ _ _) ?_); rintro e w2 ⟨rfl, hb2⟩; exact ⟨_, rfl, rfl, hb.trans (hb2.mono hsz)⟩)
         conv => arg 9; simp only [put_lit, put_lit_none, List.set]))
    refine wpLex_nil ?_
    intro wp hbp
    have hsp := hbp.size
    try simp at hsp
    have hcp := fun b o (h : b < w.heap.size + 1) => hbp.cell (p := ⟨b, o, none⟩) h
    have hfp := fun b o (h : b < w.heap.size + 1) => hbp.frozen (p := ⟨b, o, none⟩) h
    have HBp := Lib.hid hbp
    clear hbp
    simp only [List.drop]
    have hlp : w.heap.size < wp.heap.size := by omega
    have hnp : ¬ w.heap.size = wp.heap.size := by omega
    go_wp2_with fail
    refine name_world ?_
    intro w2 hw2
    have HO1 := Lib.hid (show Own w2 (w.heap.size + 1) fieldT 3 Fd.cells (fieldsOne level ⟨2, frame, r, dw, x, af, ng, soft, note⟩) (some ⟨wp.heap.size, 0, none⟩) 3 by rw [hw2]; exact Own.lit_at wp (fieldsOne level ⟨2, frame, r, dw, x, af, ng, soft, note⟩) fd_len (by omega) (by simp [fieldsOne, maxLen]) rfl)
    have hs2 : w.heap.size + 1 ≤ w2.heap.size := by rw [hw2]; simp; omega
    have HB2 := Lib.hid (show Below (w.heap.size + 1) (w.alloc (.cells #[.int .i64 2, .int .i64 frame, .bool r, .bool dw, .bool x, .bool af, .bool ng, .int .i64 soft, .int .i64 note] descT)) w2 by rw [hw2]; exact HBp.out.alloc (by omega) _)
    have hy2 : w2.heap[w.heap.size]? = some (.cells #[.int .i64 2, .int .i64 frame, .bool r, .bool dw, .bool x, .bool af, .bool ng, .int .i64 soft, .int .i64 note] descT (0, 0)) := (HB2.out.block _ (by omega)).trans (heap_new _ _)
    have cy := fun j => cell_of_row _ _ j _ _ _ hy2
    have HY2 := Lib.hid hy2
    have hy0 := heap_lt hy2
    clear hw2 hy2 hcp hfp hsp hlp hnp
    refine wp_region_lex_tail 11 [45] (NewC (w2) 45 10 (fun g => .slice (some ⟨g, 0, none⟩) 2 2) (fieldT) (#[.int .i64 10, .int .i64 1, .int .u64 (fdBit 10 af).v, .int .i64 54, .int .i64 1, .int .u64 (fdBit 54 (!x)).v])) newC_looks (by kernel_rfl) (by kernel_rfl) (by kernel_rfl) (by kernel_rfl) (newC_start _) ?_
    repeat (first
      | (refine wpLex_pass (by rfl) (passes_new (by decide) (by rfl)) ?_; (conv => arg 9; simp only [put_lit, put_lit_none, List.set]))
      | (refine wpLex_new (by rfl) (by rfl) (by decide) (by rfl) ?_
         apply Exists.intro
         refine ⟨?_, ?_⟩
         · intro w' hb
           have hsz := hb.size
           try simp at hsz
           have hcw := fun b o (h : b < (w2).heap.size) => hb.cell (p := ⟨b, o, none⟩) h
           have hfw := fun b o (h : b < (w2).heap.size) => hb.frozen (p := ⟨b, o, none⟩) h
           go_simp
           first
             | exact ⟨rfl, Below.refl _ _⟩
             | exact Below.refl _ _
             | ((with_reducible refine (HB.out _ _ _).mono ?_); rintro e w2 ⟨rfl, hb2⟩; first | exact ⟨_, rfl, rfl, hb2⟩ | exact ⟨rfl, hb2⟩)
         conv => arg 9; simp only [put_lit, put_lit_none, List.set])
      | (refine wpLex_want undef (by rfl) (comes_new rfl (by simp) rfl (by decide) (fun w _ => by go_simp; rfl)) ?_; (conv => arg 9; simp only [put_lit, put_lit_none, List.set])))
    refine wpLex_nil ?_
    intro wq bq dq hdq hCq hoq
    obtain ⟨gq, rfl, hgq, hxq, hbq⟩ := newC_end hCq (hdq 10 (by decide)) hoq
    clear hCq hdq hoq
    simp only [put_lit, List.set]
    have hsq := hbq.size
    try simp at hsq hgq
    have hlq := heap_lt hxq
    have hcq := fun b o (h : b < (w2).heap.size) => hbq.cell (p := ⟨b, o, none⟩) h
    have hfq := fun b o (h : b < (w2).heap.size) => hbq.frozen (p := ⟨b, o, none⟩) h
    have HBq := Lib.hid hbq
    have HXq := Lib.hid hxq
    clear hbq hxq
    simp only [List.drop]
    by_cases hst : stage = 1
    · subst hst
      go_wp2_with (at_builtin; refine wpList_more rfl (.tmp 35) (.tmp 45) _ rfl (w.heap.size + 1) fieldT i0 _ 3 24 Try.underlying118 hi0 hz0 hz1 hz2 rfl (by omega) fd_len fd_one (fieldsOne level ⟨2, frame, r, dw, x, af, ng, soft, note⟩) (fieldsTwo ⟨2, frame, r, dw, x, af, ng, soft, note⟩) _ _ _ gq rfl (HO1.out.below HBq.out (Nat.le_refl _)) rfl (HXq.out) (by first | decide | (simp [fieldsOne, fieldsTwo, maxLen]; done)) (by first | decide | (simp [fieldsOne, fieldsTwo]; done)) (by omega) ?_; intro A3 c3 w3 ho3 hb3; have HO3 := Lib.hid ho3; have HB3 := Lib.hid hb3; have hs3 := hb3.size; (try simp at hs3); have hc3 := fun b o (h : b < w.heap.size + 1) => hb3.cell (p := ⟨b, o, none⟩) h; have hf3 := fun b o (h : b < w.heap.size + 1) => hb3.frozen (p := ⟨b, o, none⟩) h; clear ho3 hb3)
      have hy3 : w3.heap[w.heap.size]? = some (.cells #[.int .i64 2, .int .i64 frame, .bool r, .bool dw, .bool x, .bool af, .bool ng, .int .i64 soft, .int .i64 note] descT (0, 0)) := (HB3.out.block _ (by omega)).trans ((HBq.out.block _ (by omega)).trans HY2.out)
      have cy3 := fun j => cell_of_row _ _ j _ _ _ hy3
      have hy30 := heap_lt hy3
      clear hy3 hc3 hf3 hcq hfq cy
      refine wp_region_lex_tail 11 [59] (NewC (w3) 59 10 (fun g => .slice (some ⟨g, 0, none⟩) 2 2) (fieldT) (#[.int .i64 7, .int .i64 1, .int .u64 (fdBit 7 (!dw)).v, .int .i64 11, .int .i64 1, .int .u64 (fdBit 11 ng).v])) newC_looks (by kernel_rfl) (by kernel_rfl) (by kernel_rfl) (by kernel_rfl) (newC_start _) ?_
      repeat (first
        | (refine wpLex_pass (by rfl) (passes_new (by decide) (by rfl)) ?_; (conv => arg 9; simp only [put_lit, put_lit_none, List.set]))
        | (refine wpLex_new (by rfl) (by rfl) (by decide) (by rfl) ?_
           apply Exists.intro
           refine ⟨?_, ?_⟩
           · intro w' hb
             have hsz := hb.size
             try simp at hsz
             have hcw := fun b o (h : b < (w3).heap.size) => hb.cell (p := ⟨b, o, none⟩) h
             have hfw := fun b o (h : b < (w3).heap.size) => hb.frozen (p := ⟨b, o, none⟩) h
             go_simp
             first
               | exact ⟨rfl, Below.refl _ _⟩
               | exact Below.refl _ _
               | ((with_reducible refine (HB.out _ _ _).mono ?_); rintro e w2 ⟨rfl, hb2⟩; first | exact ⟨_, rfl, rfl, hb2⟩ | exact ⟨rfl, hb2⟩)
           conv => arg 9; simp only [put_lit, put_lit_none, List.set])
        | (refine wpLex_want undef (by rfl) (comes_new rfl (by simp) rfl (by decide) (fun w _ => by go_simp; rfl)) ?_; (conv => arg 9; simp only [put_lit, put_lit_none, List.set])))
      refine wpLex_nil ?_
      intro wt bt dt hdt hCt hot
      obtain ⟨gt, rfl, hgt, hxt, hbt⟩ := newC_end hCt (hdt 10 (by decide)) hot
      clear hCt hdt hot
      simp only [put_lit, List.set]
      have hst := hbt.size
      try simp at hst hgt
      have hlt := heap_lt hxt
      have hct := fun b o (h : b < (w3).heap.size) => hbt.cell (p := ⟨b, o, none⟩) h
      have hft := fun b o (h : b < (w3).heap.size) => hbt.frozen (p := ⟨b, o, none⟩) h
      have HBt := Lib.hid hbt
      have HXt := Lib.hid hxt
      clear hbt hxt
      simp only [List.drop]
      go_wp2_with (at_builtin; refine wpList_more rfl (.tmp 49) (.tmp 59) _ rfl (w.heap.size + 1) fieldT i0 _ 3 24 Try.underlying118 hi0 hz0 hz1 hz2 rfl (by omega) fd_len fd_one (fieldsOne level ⟨2, frame, r, dw, x, af, ng, soft, note⟩ ++ fieldsTwo ⟨2, frame, r, dw, x, af, ng, soft, note⟩) ([fdBit 7 (!dw), fdBit 11 ng]) _ _ _ gt rfl (HO3.out.below HBt.out (Nat.le_refl _)) rfl (HXt.out) (by first | decide | (simp [fieldsOne, fieldsTwo, maxLen]; done)) (by first | decide | (simp [fieldsOne, fieldsTwo]; done)) (by omega) ?_; intro A5 c5 w5 ho5 hb5; have HO5 := Lib.hid ho5; have HB5 := Lib.hid hb5; have hs5 := hb5.size; (try simp at hs5); have hc5 := fun b o (h : b < w.heap.size + 1) => hb5.cell (p := ⟨b, o, none⟩) h; have hf5 := fun b o (h : b < w.heap.size + 1) => hb5.frozen (p := ⟨b, o, none⟩) h; clear ho5 hb5)
      unfold fieldsThree at HJ
      rw [if_pos rfl] at HJ
      refine Calls.mono (HJ.out _ _ _ (HO5.out.at_ fd_len)) ?_
      rintro e w6 ⟨rfl, hb6⟩
      have hs6 := hb6.size
      try simp at hs6
      have HB6 := Lib.hid hb6
      clear hb6
      go_wp2
      go_ret
      exact ⟨by unfold fieldsThree; rw [if_pos rfl]; rfl, (by repeat' (first | (with_reducible exact Below.refl _ _) | (with_reducible (refine Below.setCell ?_ ?_ _)) | (with_reducible (refine Below.alloc ?_ ?_ _)) | (with_reducible (refine Below.drew ?_)) | (with_reducible (refine below_via ?_ HB6.out ?_)) | (with_reducible (refine below_via ?_ HB5.out ?_)) | (with_reducible (refine below_via ?_ HBt.out ?_)) | (with_reducible (refine below_via ?_ HB3.out ?_)) | (with_reducible (refine below_via ?_ HBq.out ?_)) | (with_reducible (refine below_via ?_ HB2.out ?_)) | omega | (simp; done) | (simp; omega)))⟩
    · have hu : IntKind.u64.wrap soft = soft := by rw [IntKind.wrap_u64]; omega
      have hst' : (stage == 1) = false := by simpa using hst
      have HST := Lib.hid hst
      clear hst
      go_wp2_with (at_builtin; refine wpList_more rfl (.tmp 35) (.tmp 45) _ rfl (w.heap.size + 1) fieldT i0 _ 3 24 Try.underlying118 hi0 hz0 hz1 hz2 rfl (by omega) fd_len fd_one (fieldsOne level ⟨2, frame, r, dw, x, af, ng, soft, note⟩) (fieldsTwo ⟨2, frame, r, dw, x, af, ng, soft, note⟩) _ _ _ gq rfl (HO1.out.below HBq.out (Nat.le_refl _)) rfl (HXq.out) (by first | decide | (simp [fieldsOne, fieldsTwo, maxLen]; done)) (by first | decide | (simp [fieldsOne, fieldsTwo]; done)) (by omega) ?_; intro A3 c3 w3 ho3 hb3; have HO3 := Lib.hid ho3; have HB3 := Lib.hid hb3; have hs3 := hb3.size; (try simp at hs3); have hc3 := fun b o (h : b < w.heap.size + 1) => hb3.cell (p := ⟨b, o, none⟩) h; have hf3 := fun b o (h : b < w.heap.size + 1) => hb3.frozen (p := ⟨b, o, none⟩) h; clear ho3 hb3)
      have hy3 : w3.heap[w.heap.size]? = some (.cells #[.int .i64 2, .int .i64 frame, .bool r, .bool dw, .bool x, .bool af, .bool ng, .int .i64 soft, .int .i64 note] descT (0, 0)) := (HB3.out.block _ (by omega)).trans ((HBq.out.block _ (by omega)).trans HY2.out)
      have cy3 := fun j => cell_of_row _ _ j _ _ _ hy3
      have hy30 := heap_lt hy3
      clear hy3 hc3 hf3 hcq hfq cy
      refine wp_region_lex_tail 15 [75] (NewC (w3) 75 14 (fun g => .slice (some ⟨g, 0, none⟩) 3 3) (fieldT) (#[.int .i64 6, .int .i64 1, .int .u64 (fdBit 6 r).v, .int .i64 7, .int .i64 1, .int .u64 (fdBit 7 dw).v, .int .i64 55, .int .i64 4, .int .u64 soft])) newC_looks (by kernel_rfl) (by kernel_rfl) (by kernel_rfl) (by kernel_rfl) (newC_start _) ?_
      repeat (first
        | (refine wpLex_pass (by rfl) (passes_new (by decide) (by rfl)) ?_; (conv => arg 9; simp only [put_lit, put_lit_none, List.set]))
        | (refine wpLex_new (by rfl) (by rfl) (by decide) (by rfl) ?_
           apply Exists.intro
           refine ⟨?_, ?_⟩
           · intro w' hb
             have hsz := hb.size
             try simp at hsz
             have hcw := fun b o (h : b < (w3).heap.size) => hb.cell (p := ⟨b, o, none⟩) h
             have hfw := fun b o (h : b < (w3).heap.size) => hb.frozen (p := ⟨b, o, none⟩) h
             go_simp
             first
               | exact ⟨rfl, Below.refl _ _⟩
               | exact Below.refl _ _
               | ((with_reducible refine (HB.out _ _ _).mono ?_); rintro e w2 ⟨rfl, hb2⟩; first | exact ⟨_, rfl, rfl, hb2⟩ | exact ⟨rfl, hb2⟩)
           conv => arg 9; simp only [put_lit, put_lit_none, List.set])
        | (refine wpLex_want undef (by rfl) (comes_new rfl (by simp) rfl (by decide) (fun w _ => by go_simp; rfl)) ?_; (conv => arg 9; simp only [put_lit, put_lit_none, List.set])))
      refine wpLex_nil ?_
      intro wt bt dt hdt hCt hot
      obtain ⟨gt, rfl, hgt, hxt, hbt⟩ := newC_end hCt (hdt 14 (by decide)) hot
      clear hCt hdt hot
      simp only [put_lit, List.set]
      have hst := hbt.size
      try simp at hst hgt
      have hlt := heap_lt hxt
      have hct := fun b o (h : b < (w3).heap.size) => hbt.cell (p := ⟨b, o, none⟩) h
      have hft := fun b o (h : b < (w3).heap.size) => hbt.frozen (p := ⟨b, o, none⟩) h
      have HBt := Lib.hid hbt
      have HXt := Lib.hid hxt
      clear hbt hxt
      simp only [List.drop]
      go_wp2_with (at_builtin; refine wpList_more rfl (.tmp 61) (.tmp 75) _ rfl (w.heap.size + 1) fieldT i0 _ 3 24 Try.underlying118 hi0 hz0 hz1 hz2 rfl (by omega) fd_len fd_one (fieldsOne level ⟨2, frame, r, dw, x, af, ng, soft, note⟩ ++ fieldsTwo ⟨2, frame, r, dw, x, af, ng, soft, note⟩) ([fdBit 6 r, fdBit 7 dw, ⟨55, 4, soft⟩]) _ _ _ gt rfl (HO3.out.below HBt.out (Nat.le_refl _)) rfl (HXt.out) (by first | decide | (simp [fieldsOne, fieldsTwo, maxLen]; done)) (by first | decide | (simp [fieldsOne, fieldsTwo]; done)) (by omega) ?_; intro A5 c5 w5 ho5 hb5; have HO5 := Lib.hid ho5; have HB5 := Lib.hid hb5; have hs5 := hb5.size; (try simp at hs5); have hc5 := fun b o (h : b < w.heap.size + 1) => hb5.cell (p := ⟨b, o, none⟩) h; have hf5 := fun b o (h : b < w.heap.size + 1) => hb5.frozen (p := ⟨b, o, none⟩) h; clear ho5 hb5)
      unfold fieldsThree at HJ
      rw [if_neg HST.out] at HJ
      refine Calls.mono (HJ.out _ _ _ (HO5.out.at_ fd_len)) ?_
      rintro e w6 ⟨rfl, hb6⟩
      have hs6 := hb6.size
      try simp at hs6
      have HB6 := Lib.hid hb6
      clear hb6
      go_wp2
      go_ret
      exact ⟨by unfold fieldsThree; rw [if_neg HST.out]; rfl, (by repeat' (first | (with_reducible exact Below.refl _ _) | (with_reducible (refine Below.setCell ?_ ?_ _)) | (with_reducible (refine Below.alloc ?_ ?_ _)) | (with_reducible (refine Below.drew ?_)) | (with_reducible (refine below_via ?_ HB6.out ?_)) | (with_reducible (refine below_via ?_ HB5.out ?_)) | (with_reducible (refine below_via ?_ HBt.out ?_)) | (with_reducible (refine below_via ?_ HB3.out ?_)) | (with_reducible (refine below_via ?_ HBq.out ?_)) | (with_reducible (refine below_via ?_ HB2.out ?_)) | omega | (simp; done) | (simp; omega)))⟩

end Go.Proofs.Ytddbndmbcdeggaa
