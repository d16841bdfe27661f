/-
  Whether a descriptor may be: the page's own function, and Check. Conditions: the place is there.
-/
import Derived.Test.YtddbndmbcdeggaaDescC
namespace Go.Proofs.Ytddbndmbcdeggaa
open Go.RowKit

set_option maxRecDepth 100000 in
set_option maxHeartbeats 2000000 in
theorem rulNone_any (stage level : Int) (d : De) (hk : d.kind = 0) (w : World) :
    Calls Try.prog 64 #[.int .i64 stage, .int .i64 level, .agg d.cells.toArray] w fun e w' => e = .returned (.bool (mayDe stage level d)) ∧ Below w.heap.size w w' := by
  rw [rul_none hk]
  have HN := Lib.hid (fun W => num_any d.note 15 W)
  obtain ⟨kind, frame, r, dw, x, af, ng, soft, note⟩ := d
  dsimp only at hk
  subst hk
  unfold rulNone
  dsimp only [De.cells] at *
  have he := fun w => run_eql_de 0 frame r dw x af ng soft note 0 0 false false false false false 0 note w
  generalize deEq _ _ = q at *
  generalize numOk note 15 = m at *
  cases q
  · go_enter Try.func64, Try.ntmps64
    go_wp2_with fail
    go_ret
    exact ⟨rfl, (by repeat' (first | (with_reducible exact Below.refl _ _) | (with_reducible (refine Below.setCell ?_ ?_ _)) | (with_reducible (refine Below.alloc ?_ ?_ _)) | (with_reducible (refine Below.drew ?_)) | omega | (simp; done) | (simp; omega)))⟩
  · cases m
    · go_enter Try.func64, Try.ntmps64
      go_wp2_with (go_at_call 18; refine (HN.out _).mono ?_; rintro e w' ⟨rfl, rfl⟩)
      go_ret
      exact ⟨rfl, (by repeat' (first | (with_reducible exact Below.refl _ _) | (with_reducible (refine Below.setCell ?_ ?_ _)) | (with_reducible (refine Below.alloc ?_ ?_ _)) | (with_reducible (refine Below.drew ?_)) | omega | (simp; done) | (simp; omega)))⟩
    · cases h2 : (stage == 2)
      · cases h3 : (note == 0)
        all_goals
          go_enter Try.func64, Try.ntmps64
          go_wp2_with (go_at_call 18; refine (HN.out _).mono ?_; rintro e w' ⟨rfl, rfl⟩)
          go_ret
          exact ⟨rfl, (by repeat' (first | (with_reducible exact Below.refl _ _) | (with_reducible (refine Below.setCell ?_ ?_ _)) | (with_reducible (refine Below.alloc ?_ ?_ _)) | (with_reducible (refine Below.drew ?_)) | omega | (simp; done) | (simp; omega)))⟩
      · go_enter Try.func64, Try.ntmps64
        go_wp2_with (go_at_call 18; refine (HN.out _).mono ?_; rintro e w' ⟨rfl, rfl⟩)
        go_ret
        exact ⟨rfl, (by repeat' (first | (with_reducible exact Below.refl _ _) | (with_reducible (refine Below.setCell ?_ ?_ _)) | (with_reducible (refine Below.alloc ?_ ?_ _)) | (with_reducible (refine Below.drew ?_)) | omega | (simp; done) | (simp; omega)))⟩

set_option maxRecDepth 100000 in
set_option maxHeartbeats 2000000 in
theorem rulTable_any (stage level : Int) (d : De) (hk : d.kind = 1) (w : World) :
    Calls Try.prog 64 #[.int .i64 stage, .int .i64 level, .agg d.cells.toArray] w fun e w' => e = .returned (.bool (mayDe stage level d)) ∧ Below w.heap.size w w' := by
  rw [rul_table hk]
  have HN := Lib.hid (fun W => page_any d.frame W)
  obtain ⟨kind, frame, r, dw, x, af, ng, soft, note⟩ := d
  dsimp only at hk
  subst hk
  unfold rulTable bareTable
  dsimp only [De.cells] at *
  have he := fun w => run_eql_de 1 frame r dw x af ng soft note 1 frame false false false false false 0 0 w
  generalize deEq _ _ = q at *
  generalize numOk frame 4095 = m at *
  cases h : decide (level < 3)
  · go_enter Try.func64, Try.ntmps64
    go_wp2_with fail
    go_ret
    exact ⟨rfl, (by repeat' (first | (with_reducible exact Below.refl _ _) | (with_reducible (refine Below.setCell ?_ ?_ _)) | (with_reducible (refine Below.alloc ?_ ?_ _)) | (with_reducible (refine Below.drew ?_)) | omega | (simp; done) | (simp; omega)))⟩
  · cases q
    · go_enter Try.func64, Try.ntmps64
      go_wp2_with fail
      go_ret
      exact ⟨rfl, (by repeat' (first | (with_reducible exact Below.refl _ _) | (with_reducible (refine Below.setCell ?_ ?_ _)) | (with_reducible (refine Below.alloc ?_ ?_ _)) | (with_reducible (refine Below.drew ?_)) | omega | (simp; done) | (simp; omega)))⟩
    · go_enter Try.func64, Try.ntmps64
      go_wp2_with (go_at_call 17; refine (HN.out _).mono ?_; rintro e w' ⟨rfl, rfl⟩)
      go_ret
      exact ⟨rfl, (by repeat' (first | (with_reducible exact Below.refl _ _) | (with_reducible (refine Below.setCell ?_ ?_ _)) | (with_reducible (refine Below.alloc ?_ ?_ _)) | (with_reducible (refine Below.drew ?_)) | omega | (simp; done) | (simp; omega)))⟩

set_option maxRecDepth 100000 in
set_option maxHeartbeats 8000000 in
theorem rulLeaf_any (stage level : Int) (d : De) (hk : d.kind = 2) (h0 : 0 ≤ level) (h1 : level ≤ 3) (hs : stage = 1 ∨ stage = 2) (w : World) :
    Calls Try.prog 64 #[.int .i64 stage, .int .i64 level, .agg d.cells.toArray] w fun e w' => e = .returned (.bool (mayDe stage level d)) ∧ Below w.heap.size w w' := by
  rw [rul_leaf hk hs]
  have HN := Lib.hid (fun W => page_any d.frame W)
  have HS := Lib.hid (fun W => num_any d.soft 15 W)
  have HC := Lib.hid (fun W => rcovers_any level h0 h1 W)
  obtain ⟨kind, frame, r, dw, x, af, ng, soft, note⟩ := d
  dsimp only at hk
  subst hk
  unfold rulLeaf
  dsimp only [De.cells] at *
  have hc0 : 0 < coversOf level := covers_pos _
  have hp : numOk frame 4095 = true → 0 ≤ frame := fun h => by simp [numOk] at h; omega
  have hm : numOk frame 4095 = true → frame.tmod (coversOf level) = frame % coversOf level := fun h => Int.tmod_eq_emod_of_nonneg (hp h)
  generalize coversOf level = cv at *
  have hc1 : ¬ cv = 0 := by omega
  have hc2 : (cv == 0) = false := by simpa using hc1
  generalize numOk frame 4095 = m at *
  generalize numOk soft 15 = m2 at *
  cases g0 : decide (0 < level)
  · clear hm hp
    go_enter Try.func64, Try.ntmps64
    go_wp2_with fail
    refine wp_region_class (fun w' => Below (w.heap.size + 2) ((w.alloc (.cells #[.int .i64 2, .int .i64 frame, .bool r, .bool dw, .bool x, .bool af, .bool ng, .int .i64 soft, .int .i64 note] descT)).alloc (.cells #[.bool r, .bool dw, .bool x, .bool af, .bool ng, .int .i64 soft] 31)) w') (by kernel_rfl) (by kernel_rfl) (Below.refl _ _).drew ?_
    repeat (first
      | (refine wpLex_pass (by rfl) passes_plain ?_; (conv => arg 9; simp only [put_lit, put_lit_none, List.set]))
      | (refine wpLex_plain (by rfl) ?_
         apply Exists.intro
         refine ⟨?_, ?_⟩
         · intro w' hb
           have hsz := hb.size
           try simp at hsz
           have hcw := fun b o (h : b < w.heap.size + 2) => hb.cell (p := ⟨b, o, none⟩) h
           have hfw := fun b o (h : b < w.heap.size + 2) => hb.frozen (p := ⟨b, o, none⟩) h
           go_simp
           first
             | exact ⟨rfl, hb⟩
             | exact rfl
             | ((with_reducible refine Calls.mono (HN.out _) ?_); rintro e w2 ⟨rfl, rfl⟩; exact ⟨_, rfl, rfl, hb⟩)
             | ((with_reducible refine Calls.mono (HS.out _) ?_); rintro e w2 ⟨rfl, rfl⟩; exact ⟨_, rfl, rfl, hb⟩)
             | ((with_reducible refine Calls.mono (HC.out _) ?_); rintro e w2 ⟨rfl, hb2⟩; exact ⟨_, rfl, rfl, hb.trans (hb2.mono hsz)⟩)
         conv => arg 9; simp only [put_lit, put_lit_none, List.set]))
    refine wpLex_nil ?_
    intro wp hbp
    have hsp := hbp.size
    try simp at hsp
    have hcp := fun b o (h : b < w.heap.size + 2) => hbp.cell (p := ⟨b, o, none⟩) h
    have hfp := fun b o (h : b < w.heap.size + 2) => hbp.frozen (p := ⟨b, o, none⟩) h
    have HBp := Lib.hid hbp
    clear hbp
    go_wp2
    go_ret
    exact ⟨rfl, (by repeat' (first | (with_reducible exact Below.refl _ _) | (with_reducible (refine Below.setCell ?_ ?_ _)) | (with_reducible (refine Below.alloc ?_ ?_ _)) | (with_reducible (refine Below.drew ?_)) | (with_reducible (refine below_via ?_ HBp.out ?_)) | omega | (simp; done) | (simp; omega)))⟩
  cases m
  · clear hm hp
    go_enter Try.func64, Try.ntmps64
    go_wp2_with fail
    refine wp_region_class (fun w' => Below (w.heap.size + 2) ((w.alloc (.cells #[.int .i64 2, .int .i64 frame, .bool r, .bool dw, .bool x, .bool af, .bool ng, .int .i64 soft, .int .i64 note] descT)).alloc (.cells #[.bool r, .bool dw, .bool x, .bool af, .bool ng, .int .i64 soft] 31)) w') (by kernel_rfl) (by kernel_rfl) (Below.refl _ _).drew ?_
    repeat (first
      | (refine wpLex_pass (by rfl) passes_plain ?_; (conv => arg 9; simp only [put_lit, put_lit_none, List.set]))
      | (refine wpLex_plain (by rfl) ?_
         apply Exists.intro
         refine ⟨?_, ?_⟩
         · intro w' hb
           have hsz := hb.size
           try simp at hsz
           have hcw := fun b o (h : b < w.heap.size + 2) => hb.cell (p := ⟨b, o, none⟩) h
           have hfw := fun b o (h : b < w.heap.size + 2) => hb.frozen (p := ⟨b, o, none⟩) h
           go_simp
           first
             | exact ⟨rfl, hb⟩
             | exact rfl
             | ((with_reducible refine Calls.mono (HN.out _) ?_); rintro e w2 ⟨rfl, rfl⟩; exact ⟨_, rfl, rfl, hb⟩)
             | ((with_reducible refine Calls.mono (HS.out _) ?_); rintro e w2 ⟨rfl, rfl⟩; exact ⟨_, rfl, rfl, hb⟩)
             | ((with_reducible refine Calls.mono (HC.out _) ?_); rintro e w2 ⟨rfl, hb2⟩; exact ⟨_, rfl, rfl, hb.trans (hb2.mono hsz)⟩)
         conv => arg 9; simp only [put_lit, put_lit_none, List.set]))
    refine wpLex_nil ?_
    intro wp hbp
    have hsp := hbp.size
    try simp at hsp
    have hcp := fun b o (h : b < w.heap.size + 2) => hbp.cell (p := ⟨b, o, none⟩) h
    have hfp := fun b o (h : b < w.heap.size + 2) => hbp.frozen (p := ⟨b, o, none⟩) h
    have HBp := Lib.hid hbp
    clear hbp
    go_wp2
    go_ret
    exact ⟨rfl, (by repeat' (first | (with_reducible exact Below.refl _ _) | (with_reducible (refine Below.setCell ?_ ?_ _)) | (with_reducible (refine Below.alloc ?_ ?_ _)) | (with_reducible (refine Below.drew ?_)) | (with_reducible (refine below_via ?_ HBp.out ?_)) | omega | (simp; done) | (simp; omega)))⟩
  have hp' := hp rfl
  have hm' := hm rfl
  clear hp hm
  cases g1 : (frame % cv == 0)
  · go_enter Try.func64, Try.ntmps64
    go_wp2_with fail
    refine wp_region_class (fun w' => Below (w.heap.size + 2) ((w.alloc (.cells #[.int .i64 2, .int .i64 frame, .bool r, .bool dw, .bool x, .bool af, .bool ng, .int .i64 soft, .int .i64 note] descT)).alloc (.cells #[.bool r, .bool dw, .bool x, .bool af, .bool ng, .int .i64 soft] 31)) w') (by kernel_rfl) (by kernel_rfl) (Below.refl _ _).drew ?_
    repeat (first
      | (refine wpLex_pass (by rfl) passes_plain ?_; (conv => arg 9; simp only [put_lit, put_lit_none, List.set]))
      | (refine wpLex_plain (by rfl) ?_
         apply Exists.intro
         refine ⟨?_, ?_⟩
         · intro w' hb
           have hsz := hb.size
           try simp at hsz
           have hcw := fun b o (h : b < w.heap.size + 2) => hb.cell (p := ⟨b, o, none⟩) h
           have hfw := fun b o (h : b < w.heap.size + 2) => hb.frozen (p := ⟨b, o, none⟩) h
           go_simp
           first
             | exact ⟨rfl, hb⟩
             | exact rfl
             | ((with_reducible refine Calls.mono (HN.out _) ?_); rintro e w2 ⟨rfl, rfl⟩; exact ⟨_, rfl, rfl, hb⟩)
             | ((with_reducible refine Calls.mono (HS.out _) ?_); rintro e w2 ⟨rfl, rfl⟩; exact ⟨_, rfl, rfl, hb⟩)
             | ((with_reducible refine Calls.mono (HC.out _) ?_); rintro e w2 ⟨rfl, hb2⟩; exact ⟨_, rfl, rfl, hb.trans (hb2.mono hsz)⟩)
         conv => arg 9; simp only [put_lit, put_lit_none, List.set]))
    refine wpLex_nil ?_
    intro wp hbp
    have hsp := hbp.size
    try simp at hsp
    have hcp := fun b o (h : b < w.heap.size + 2) => hbp.cell (p := ⟨b, o, none⟩) h
    have hfp := fun b o (h : b < w.heap.size + 2) => hbp.frozen (p := ⟨b, o, none⟩) h
    have HBp := Lib.hid hbp
    clear hbp
    go_wp2
    go_ret
    exact ⟨rfl, (by repeat' (first | (with_reducible exact Below.refl _ _) | (with_reducible (refine Below.setCell ?_ ?_ _)) | (with_reducible (refine Below.alloc ?_ ?_ _)) | (with_reducible (refine Below.drew ?_)) | (with_reducible (refine below_via ?_ HBp.out ?_)) | omega | (simp; done) | (simp; omega)))⟩
  cases g2 : (note == 0)
  · go_enter Try.func64, Try.ntmps64
    go_wp2_with fail
    refine wp_region_class (fun w' => Below (w.heap.size + 2) ((w.alloc (.cells #[.int .i64 2, .int .i64 frame, .bool r, .bool dw, .bool x, .bool af, .bool ng, .int .i64 soft, .int .i64 note] descT)).alloc (.cells #[.bool r, .bool dw, .bool x, .bool af, .bool ng, .int .i64 soft] 31)) w') (by kernel_rfl) (by kernel_rfl) (Below.refl _ _).drew ?_
    repeat (first
      | (refine wpLex_pass (by rfl) passes_plain ?_; (conv => arg 9; simp only [put_lit, put_lit_none, List.set]))
      | (refine wpLex_plain (by rfl) ?_
         apply Exists.intro
         refine ⟨?_, ?_⟩
         · intro w' hb
           have hsz := hb.size
           try simp at hsz
           have hcw := fun b o (h : b < w.heap.size + 2) => hb.cell (p := ⟨b, o, none⟩) h
           have hfw := fun b o (h : b < w.heap.size + 2) => hb.frozen (p := ⟨b, o, none⟩) h
           go_simp
           first
             | exact ⟨rfl, hb⟩
             | exact rfl
             | ((with_reducible refine Calls.mono (HN.out _) ?_); rintro e w2 ⟨rfl, rfl⟩; exact ⟨_, rfl, rfl, hb⟩)
             | ((with_reducible refine Calls.mono (HS.out _) ?_); rintro e w2 ⟨rfl, rfl⟩; exact ⟨_, rfl, rfl, hb⟩)
             | ((with_reducible refine Calls.mono (HC.out _) ?_); rintro e w2 ⟨rfl, hb2⟩; exact ⟨_, rfl, rfl, hb.trans (hb2.mono hsz)⟩)
         conv => arg 9; simp only [put_lit, put_lit_none, List.set]))
    refine wpLex_nil ?_
    intro wp hbp
    have hsp := hbp.size
    try simp at hsp
    have hcp := fun b o (h : b < w.heap.size + 2) => hbp.cell (p := ⟨b, o, none⟩) h
    have hfp := fun b o (h : b < w.heap.size + 2) => hbp.frozen (p := ⟨b, o, none⟩) h
    have HBp := Lib.hid hbp
    clear hbp
    go_wp2
    go_ret
    exact ⟨rfl, (by repeat' (first | (with_reducible exact Below.refl _ _) | (with_reducible (refine Below.setCell ?_ ?_ _)) | (with_reducible (refine Below.alloc ?_ ?_ _)) | (with_reducible (refine Below.drew ?_)) | (with_reducible (refine below_via ?_ HBp.out ?_)) | omega | (simp; done) | (simp; omega)))⟩
  rcases hs with rfl | rfl
  · cases r
    · go_enter Try.func64, Try.ntmps64
      go_wp2_with fail
      refine wp_region_class (fun w' => Below (w.heap.size + 2) ((w.alloc (.cells #[.int .i64 2, .int .i64 frame, .bool false, .bool dw, .bool x, .bool af, .bool ng, .int .i64 soft, .int .i64 note] descT)).alloc (.cells #[.bool false, .bool dw, .bool x, .bool af, .bool ng, .int .i64 soft] 31)) w') (by kernel_rfl) (by kernel_rfl) (Below.refl _ _).drew ?_
      repeat (first
        | (refine wpLex_pass (by rfl) passes_plain ?_; (conv => arg 9; simp only [put_lit, put_lit_none, List.set]))
        | (refine wpLex_plain (by rfl) ?_
           apply Exists.intro
           refine ⟨?_, ?_⟩
           · intro w' hb
             have hsz := hb.size
             try simp at hsz
             have hcw := fun b o (h : b < w.heap.size + 2) => hb.cell (p := ⟨b, o, none⟩) h
             have hfw := fun b o (h : b < w.heap.size + 2) => hb.frozen (p := ⟨b, o, none⟩) h
             go_simp
             first
               | exact ⟨rfl, hb⟩
               | exact rfl
               | ((with_reducible refine Calls.mono (HN.out _) ?_); rintro e w2 ⟨rfl, rfl⟩; exact ⟨_, rfl, rfl, hb⟩)
               | ((with_reducible refine Calls.mono (HS.out _) ?_); rintro e w2 ⟨rfl, rfl⟩; exact ⟨_, rfl, rfl, hb⟩)
               | ((with_reducible refine Calls.mono (HC.out _) ?_); rintro e w2 ⟨rfl, hb2⟩; exact ⟨_, rfl, rfl, hb.trans (hb2.mono hsz)⟩)
           conv => arg 9; simp only [put_lit, put_lit_none, List.set]))
      refine wpLex_nil ?_
      intro wp hbp
      have hsp := hbp.size
      try simp at hsp
      have hcp := fun b o (h : b < w.heap.size + 2) => hbp.cell (p := ⟨b, o, none⟩) h
      have hfp := fun b o (h : b < w.heap.size + 2) => hbp.frozen (p := ⟨b, o, none⟩) h
      have HBp := Lib.hid hbp
      clear hbp
      go_wp2
      go_ret
      exact ⟨rfl, (by repeat' (first | (with_reducible exact Below.refl _ _) | (with_reducible (refine Below.setCell ?_ ?_ _)) | (with_reducible (refine Below.alloc ?_ ?_ _)) | (with_reducible (refine Below.drew ?_)) | (with_reducible (refine below_via ?_ HBp.out ?_)) | omega | (simp; done) | (simp; omega)))⟩
    · cases g3 : (soft == 0)
      all_goals
        go_enter Try.func64, Try.ntmps64
        go_wp2_with fail
        refine wp_region_class (fun w' => Below (w.heap.size + 2) ((w.alloc (.cells #[.int .i64 2, .int .i64 frame, .bool true, .bool dw, .bool x, .bool af, .bool ng, .int .i64 soft, .int .i64 note] descT)).alloc (.cells #[.bool true, .bool dw, .bool x, .bool af, .bool ng, .int .i64 soft] 31)) w') (by kernel_rfl) (by kernel_rfl) (Below.refl _ _).drew ?_
        repeat (first
          | (refine wpLex_pass (by rfl) passes_plain ?_; (conv => arg 9; simp only [put_lit, put_lit_none, List.set]))
          | (refine wpLex_plain (by rfl) ?_
             apply Exists.intro
             refine ⟨?_, ?_⟩
             · intro w' hb
               have hsz := hb.size
               try simp at hsz
               have hcw := fun b o (h : b < w.heap.size + 2) => hb.cell (p := ⟨b, o, none⟩) h
               have hfw := fun b o (h : b < w.heap.size + 2) => hb.frozen (p := ⟨b, o, none⟩) h
               go_simp
               first
                 | exact ⟨rfl, hb⟩
                 | exact rfl
                 | ((with_reducible refine Calls.mono (HN.out _) ?_); rintro e w2 ⟨rfl, rfl⟩; exact ⟨_, rfl, rfl, hb⟩)
                 | ((with_reducible refine Calls.mono (HS.out _) ?_); rintro e w2 ⟨rfl, rfl⟩; exact ⟨_, rfl, rfl, hb⟩)
                 | ((with_reducible refine Calls.mono (HC.out _) ?_); rintro e w2 ⟨rfl, hb2⟩; exact ⟨_, rfl, rfl, hb.trans (hb2.mono hsz)⟩)
             conv => arg 9; simp only [put_lit, put_lit_none, List.set]))
        refine wpLex_nil ?_
        intro wp hbp
        have hsp := hbp.size
        try simp at hsp
        have hcp := fun b o (h : b < w.heap.size + 2) => hbp.cell (p := ⟨b, o, none⟩) h
        have hfp := fun b o (h : b < w.heap.size + 2) => hbp.frozen (p := ⟨b, o, none⟩) h
        have HBp := Lib.hid hbp
        clear hbp
        go_wp2
        go_ret
        exact ⟨rfl, (by repeat' (first | (with_reducible exact Below.refl _ _) | (with_reducible (refine Below.setCell ?_ ?_ _)) | (with_reducible (refine Below.alloc ?_ ?_ _)) | (with_reducible (refine Below.drew ?_)) | (with_reducible (refine below_via ?_ HBp.out ?_)) | omega | (simp; done) | (simp; omega)))⟩
  · cases ng
    · cases m2
      all_goals
        go_enter Try.func64, Try.ntmps64
        go_wp2_with fail
        refine wp_region_class (fun w' => Below (w.heap.size + 2) ((w.alloc (.cells #[.int .i64 2, .int .i64 frame, .bool r, .bool dw, .bool x, .bool af, .bool false, .int .i64 soft, .int .i64 note] descT)).alloc (.cells #[.bool r, .bool dw, .bool x, .bool af, .bool false, .int .i64 soft] 31)) w') (by kernel_rfl) (by kernel_rfl) (Below.refl _ _).drew ?_
        repeat (first
          | (refine wpLex_pass (by rfl) passes_plain ?_; (conv => arg 9; simp only [put_lit, put_lit_none, List.set]))
          | (refine wpLex_plain (by rfl) ?_
             apply Exists.intro
             refine ⟨?_, ?_⟩
             · intro w' hb
               have hsz := hb.size
               try simp at hsz
               have hcw := fun b o (h : b < w.heap.size + 2) => hb.cell (p := ⟨b, o, none⟩) h
               have hfw := fun b o (h : b < w.heap.size + 2) => hb.frozen (p := ⟨b, o, none⟩) h
               go_simp
               first
                 | exact ⟨rfl, hb⟩
                 | exact rfl
                 | ((with_reducible refine Calls.mono (HN.out _) ?_); rintro e w2 ⟨rfl, rfl⟩; exact ⟨_, rfl, rfl, hb⟩)
                 | ((with_reducible refine Calls.mono (HS.out _) ?_); rintro e w2 ⟨rfl, rfl⟩; exact ⟨_, rfl, rfl, hb⟩)
                 | ((with_reducible refine Calls.mono (HC.out _) ?_); rintro e w2 ⟨rfl, hb2⟩; exact ⟨_, rfl, rfl, hb.trans (hb2.mono hsz)⟩)
             conv => arg 9; simp only [put_lit, put_lit_none, List.set]))
        refine wpLex_nil ?_
        intro wp hbp
        have hsp := hbp.size
        try simp at hsp
        have hcp := fun b o (h : b < w.heap.size + 2) => hbp.cell (p := ⟨b, o, none⟩) h
        have hfp := fun b o (h : b < w.heap.size + 2) => hbp.frozen (p := ⟨b, o, none⟩) h
        have HBp := Lib.hid hbp
        clear hbp
        go_wp2
        go_ret
        exact ⟨rfl, (by repeat' (first | (with_reducible exact Below.refl _ _) | (with_reducible (refine Below.setCell ?_ ?_ _)) | (with_reducible (refine Below.alloc ?_ ?_ _)) | (with_reducible (refine Below.drew ?_)) | (with_reducible (refine below_via ?_ HBp.out ?_)) | omega | (simp; done) | (simp; omega)))⟩
    · go_enter Try.func64, Try.ntmps64
      go_wp2_with fail
      refine wp_region_class (fun w' => Below (w.heap.size + 2) ((w.alloc (.cells #[.int .i64 2, .int .i64 frame, .bool r, .bool dw, .bool x, .bool af, .bool true, .int .i64 soft, .int .i64 note] descT)).alloc (.cells #[.bool r, .bool dw, .bool x, .bool af, .bool true, .int .i64 soft] 31)) w') (by kernel_rfl) (by kernel_rfl) (Below.refl _ _).drew ?_
      repeat (first
        | (refine wpLex_pass (by rfl) passes_plain ?_; (conv => arg 9; simp only [put_lit, put_lit_none, List.set]))
        | (refine wpLex_plain (by rfl) ?_
           apply Exists.intro
           refine ⟨?_, ?_⟩
           · intro w' hb
             have hsz := hb.size
             try simp at hsz
             have hcw := fun b o (h : b < w.heap.size + 2) => hb.cell (p := ⟨b, o, none⟩) h
             have hfw := fun b o (h : b < w.heap.size + 2) => hb.frozen (p := ⟨b, o, none⟩) h
             go_simp
             first
               | exact ⟨rfl, hb⟩
               | exact rfl
               | ((with_reducible refine Calls.mono (HN.out _) ?_); rintro e w2 ⟨rfl, rfl⟩; exact ⟨_, rfl, rfl, hb⟩)
               | ((with_reducible refine Calls.mono (HS.out _) ?_); rintro e w2 ⟨rfl, rfl⟩; exact ⟨_, rfl, rfl, hb⟩)
               | ((with_reducible refine Calls.mono (HC.out _) ?_); rintro e w2 ⟨rfl, hb2⟩; exact ⟨_, rfl, rfl, hb.trans (hb2.mono hsz)⟩)
           conv => arg 9; simp only [put_lit, put_lit_none, List.set]))
      refine wpLex_nil ?_
      intro wp hbp
      have hsp := hbp.size
      try simp at hsp
      have hcp := fun b o (h : b < w.heap.size + 2) => hbp.cell (p := ⟨b, o, none⟩) h
      have hfp := fun b o (h : b < w.heap.size + 2) => hbp.frozen (p := ⟨b, o, none⟩) h
      have HBp := Lib.hid hbp
      clear hbp
      go_wp2
      go_ret
      exact ⟨rfl, (by repeat' (first | (with_reducible exact Below.refl _ _) | (with_reducible (refine Below.setCell ?_ ?_ _)) | (with_reducible (refine Below.alloc ?_ ?_ _)) | (with_reducible (refine Below.drew ?_)) | (with_reducible (refine below_via ?_ HBp.out ?_)) | omega | (simp; done) | (simp; omega)))⟩

set_option maxRecDepth 100000 in
set_option maxHeartbeats 2000000 in
theorem rulElse_any (stage level : Int) (d : De) (hk : d.kind ≠ 0 ∧ d.kind ≠ 1 ∧ d.kind ≠ 2) (w : World) :
    Calls Try.prog 64 #[.int .i64 stage, .int .i64 level, .agg d.cells.toArray] w fun e w' => e = .returned (.bool (mayDe stage level d)) ∧ Below w.heap.size w w' := by
  obtain ⟨kind, frame, r, dw, x, af, ng, soft, note⟩ := d
  obtain ⟨h0, h1, h2⟩ := hk
  unfold mayDe
  dsimp only [De.cells] at *
  rw [if_neg h0, if_neg h1, if_neg h2]
  have q0 : (kind == 0) = false := by simpa using h0
  have q1 : (kind == 1) = false := by simpa using h1
  have q2 : (kind == 2) = false := by simpa using h2
  clear h0 h1 h2
  go_enter Try.func64, Try.ntmps64
  go_wp2
  go_ret
  exact ⟨rfl, (by repeat' (first | (with_reducible exact Below.refl _ _) | (with_reducible (refine Below.setCell ?_ ?_ _)) | (with_reducible (refine Below.alloc ?_ ?_ _)) | (with_reducible (refine Below.drew ?_)) | omega | (simp; done) | (simp; omega)))⟩

theorem rul_any (stage level : Int) (d : De) (h0 : 0 ≤ level) (h1 : level ≤ 3) (hs : stage = 1 ∨ stage = 2) (w : World) :
    Calls Try.prog 64 #[.int .i64 stage, .int .i64 level, .agg d.cells.toArray] w fun e w' => e = .returned (.bool (mayDe stage level d)) ∧ Below w.heap.size w w' := by
  by_cases k0 : d.kind = 0
  · exact rulNone_any stage level d k0 w
  by_cases k1 : d.kind = 1
  · exact rulTable_any stage level d k1 w
  by_cases k2 : d.kind = 2
  · exact rulLeaf_any stage level d k2 h0 h1 hs w
  · exact rulElse_any stage level d ⟨k0, k1, k2⟩ w

end Go.Proofs.Ytddbndmbcdeggaa
