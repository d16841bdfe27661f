/-
  Whether a descriptor may be: the program's answer, and Check's. Conditions: the place is there.
-/
import Derived.Test.YtddbndmbcdeggaaDescA
namespace Go.Proofs.Ytddbndmbcdeggaa
open Go.RowKit

/-- What it could be at most, of its kind. -/
def bareNone (stage : Int) (d : De) : De := ⟨0, 0, false, false, false, false, false, 0, if stage == 2 && (decide (0 ≤ d.note) && decide (d.note ≤ 15)) then d.note else 0⟩
def bareTable (d : De) : De := ⟨1, d.frame, false, false, false, false, false, 0, 0⟩
def bareLeaf (stage : Int) (d : De) : De := if stage == 1 then ⟨2, d.frame, true, d.w, d.x, d.af, d.ng, 0, 0⟩ else ⟨2, d.frame, d.r, d.w, d.x, d.af, false, d.soft, 0⟩
def coversOf (level : Int) : Int := 2 ^ (bitsOf level).toNat
def mayDe (stage level : Int) (d : De) : Bool :=
  if d.kind = 0 then deEq d (bareNone stage d)
  else if d.kind = 1 then deEq d (bareTable d) && (decide (level < 3) && frameOk d.frame 1)
  else if d.kind = 2 then deEq d (bareLeaf stage d) && (decide (0 < level) && (decide (0 ≤ d.soft) && (decide (d.soft ≤ 15) && frameOk d.frame (coversOf level))))
  else false

set_option maxRecDepth 100000 in
set_option maxHeartbeats 2000000 in
theorem mayNone_any (stage level : Int) (d : De) (hk : d.kind = 0) (w : World) :
    Calls Try.prog 87 #[.agg (.int .i64 stage :: .int .i64 level :: d.cells).toArray] w fun e w' => e = .returned (.bool (mayDe stage level d)) ∧ Below w.heap.size w w' := by
  obtain ⟨kind, frame, r, dw, x, af, ng, soft, note⟩ := d
  dsimp only at hk
  subst hk
  unfold mayDe bareNone
  dsimp only [De.cells]
  rw [if_pos rfl]
  have he := fun n w => run_eql_de 0 frame r dw x af ng soft note 0 0 false false false false false 0 n w
  cases h1 : (stage == 2)
  · rw [Bool.false_and]
    go_enter Try.func87, Try.ntmps87
    go_wp2
    go_ret
    exact ⟨rfl, (by repeat' (first | (with_reducible exact Below.refl _ _) | (with_reducible (refine Below.setCell ?_ ?_ _)) | (with_reducible (refine Below.alloc ?_ ?_ _)) | (with_reducible (refine Below.drew ?_)) | omega | (simp; done) | (simp; omega)))⟩
  · by_cases h2 : 0 ≤ note
    · have q2 : decide (0 ≤ note) = true := by simpa using h2
      by_cases h3 : note ≤ 15
      · have q3 : decide (note ≤ 15) = true := by simpa using h3
        rw [q2, q3]
        go_enter Try.func87, Try.ntmps87
        go_wp2
        go_ret
        exact ⟨rfl, (by repeat' (first | (with_reducible exact Below.refl _ _) | (with_reducible (refine Below.setCell ?_ ?_ _)) | (with_reducible (refine Below.alloc ?_ ?_ _)) | (with_reducible (refine Below.drew ?_)) | omega | (simp; done) | (simp; omega)))⟩
      · have q3 : decide (note ≤ 15) = false := by simpa using h3
        rw [q2, q3]
        clear h2 h3
        go_enter Try.func87, Try.ntmps87
        go_wp2
        go_ret
        exact ⟨rfl, (by repeat' (first | (with_reducible exact Below.refl _ _) | (with_reducible (refine Below.setCell ?_ ?_ _)) | (with_reducible (refine Below.alloc ?_ ?_ _)) | (with_reducible (refine Below.drew ?_)) | omega | (simp; done) | (simp; omega)))⟩
    · have q2 : decide (0 ≤ note) = false := by simpa using h2
      rw [q2]
      clear h2
      go_enter Try.func87, Try.ntmps87
      go_wp2
      go_ret
      exact ⟨rfl, (by repeat' (first | (with_reducible exact Below.refl _ _) | (with_reducible (refine Below.setCell ?_ ?_ _)) | (with_reducible (refine Below.alloc ?_ ?_ _)) | (with_reducible (refine Below.drew ?_)) | omega | (simp; done) | (simp; omega)))⟩

set_option maxRecDepth 100000 in
set_option maxHeartbeats 2000000 in
theorem mayTable_any (stage level : Int) (d : De) (hk : d.kind = 1) (w : World) :
    Calls Try.prog 87 #[.agg (.int .i64 stage :: .int .i64 level :: d.cells).toArray] w fun e w' => e = .returned (.bool (mayDe stage level d)) ∧ Below w.heap.size w w' := by
  have HF := Lib.hid (fun W => framed_any stage level d 1 (by omega) (by omega) W)
  obtain ⟨kind, frame, r, dw, x, af, ng, soft, note⟩ := d
  dsimp only at hk
  subst hk
  unfold mayDe bareTable
  dsimp only [De.cells] at *
  rw [if_neg (by decide), if_pos rfl]
  have he := fun w => run_eql_de 1 frame r dw x af ng soft note 1 frame false false false false false 0 0 w
  generalize deEq _ _ = q at *
  generalize frameOk frame 1 = fo at *
  cases q
  · go_enter Try.func87, Try.ntmps87
    go_wp2
    go_ret
    exact ⟨rfl, (by repeat' (first | (with_reducible exact Below.refl _ _) | (with_reducible (refine Below.setCell ?_ ?_ _)) | (with_reducible (refine Below.alloc ?_ ?_ _)) | (with_reducible (refine Below.drew ?_)) | omega | (simp; done) | (simp; omega)))⟩
  · cases h1 : decide (level < 3)
    · go_enter Try.func87, Try.ntmps87
      go_wp2
      go_ret
      exact ⟨rfl, (by repeat' (first | (with_reducible exact Below.refl _ _) | (with_reducible (refine Below.setCell ?_ ?_ _)) | (with_reducible (refine Below.alloc ?_ ?_ _)) | (with_reducible (refine Below.drew ?_)) | omega | (simp; done) | (simp; omega)))⟩
    · go_enter Try.func87, Try.ntmps87
      go_wp2_with fail
      refine Calls.mono (HF.out _) ?_
      rintro e w1 ⟨rfl, hb1⟩
      have hs1 := hb1.size
      try simp at hs1
      have HB1 := Lib.hid hb1
      clear hb1
      go_wp2
      go_ret
      exact ⟨rfl, (by repeat' (first | (with_reducible exact Below.refl _ _) | (with_reducible (refine Below.setCell ?_ ?_ _)) | (with_reducible (refine Below.alloc ?_ ?_ _)) | (with_reducible (refine Below.drew ?_)) | (with_reducible (refine below_via ?_ HB1.out ?_)) | omega | (simp; done) | (simp; omega)))⟩

theorem ret_bool {a b : Bool} (h : a = b) : Ending.returned (.bool a) = .returned (.bool b) := by rw [h]
theorem covers_pos (bt : Int) : (0 : Int) < 2 ^ bt.toNat := Int.pow_pos (by decide)
theorem covers_le (bt : Int) (h1 : bt ≤ 9) : (2 : Int) ^ bt.toNat ≤ 512 := by
  have := Nat.pow_le_pow_right (n := 2) (by decide) (show bt.toNat ≤ 9 by omega)
  have e : (2 : Int) ^ bt.toNat = ((2 ^ bt.toNat : Nat) : Int) := by simp
  rw [e]
  omega
theorem i64_covers (bt : Int) (_ : 0 ≤ bt) (h1 : bt ≤ 9) : IntKind.i64.wrap (2 ^ bt.toNat) = 2 ^ bt.toNat := by
  have h2 := covers_le bt h1
  have h3 := covers_pos bt
  exact IntWalk.i64_in _ (by omega)

set_option maxRecDepth 100000 in
set_option maxHeartbeats 4000000 in
theorem mayLeaf_any (stage level : Int) (d : De) (hk : d.kind = 2) (h0 : 0 ≤ level) (h1 : level ≤ 3) (w : World) :
    Calls Try.prog 87 #[.agg (.int .i64 stage :: .int .i64 level :: d.cells).toArray] w fun e w' => e = .returned (.bool (mayDe stage level d)) ∧ Below w.heap.size w w' := by
  have HBT := Lib.hid (fun W => bits_any stage level h0 h1 W)
  have hbt : 0 ≤ bitsOf level ∧ bitsOf level ≤ 9 := by unfold bitsOf; omega
  have HF := Lib.hid (fun W => framed_any stage level d (coversOf level) (covers_pos _) (covers_le _ hbt.2) W)
  obtain ⟨kind, frame, r, dw, x, af, ng, soft, note⟩ := d
  dsimp only at hk
  subst hk
  unfold mayDe bareLeaf
  dsimp only [De.cells] at *
  rw [if_neg (by decide), if_neg (by decide), if_pos rfl]
  unfold coversOf at *
  generalize bitsOf level = bt at *
  obtain ⟨hbt0, hbt1⟩ := hbt
  cases hst : (stage == 1)
  · rw [if_neg (by decide)]
    have he := fun w => run_eql_de 2 frame r dw x af ng soft note 2 frame r dw x af false soft 0 w
    generalize deEq _ _ = q at *
    generalize frameOk frame (2 ^ bt.toNat) = fo at *
    go_enter Try.func87, Try.ntmps87
    go_wp2_with fail
    refine wp_region_done_tail 8 (fun d w9 => PutC ((w.alloc (.cells #[.int .i64 stage, .int .i64 level, .int .i64 2, .int .i64 frame, .bool r, .bool dw, .bool x, .bool af, .bool ng, .int .i64 soft, .int .i64 note] 120)).alloc (.cells #[.int .i64 2, .int .i64 0, .bool false, .bool false, .bool false, .bool false, .bool false, .int .i64 0, .int .i64 0] descT)) (w.heap.size + 1) 7 (descT) (#[.int .i64 2, .int .i64 0, .bool false, .bool false, .bool false, .bool false, .bool false, .int .i64 0, .int .i64 0]) (#[.int .i64 2, .int .i64 frame, .bool false, .bool false, .bool false, .bool false, .bool false, .int .i64 0, .int .i64 0]) d w9) (by kernel_rfl) (by kernel_rfl) (by kernel_rfl) (putC_start (by first | assumption | exact heap_at _ _ (by simp; done) | exact (heap_old _ _ (by simp; done)).trans (heap_at _ _ (by simp; done)))) ?_
    repeat (first
      | (refine wpLex_pass (by rfl) (passes_done fun d w _ hc => putC_step hc (Below.refl _ _) (by rfl)) ?_; (conv => arg 9; simp only [put_lit, put_lit_none, List.set]))
      | (refine wpLex_putc (by rfl) (by rfl) ?_
         apply Exists.intro
         refine ⟨?_, ?_⟩
         · intro w' hb
           have hsz := hb.size
           try simp at hsz
           have hcw := fun b o (h : b < w.heap.size + 1) => hb.cell (p := ⟨b, o, none⟩) h
           have hfw := fun b o (h : b < w.heap.size + 1) => hb.frozen (p := ⟨b, o, none⟩) h
           go_simp
           first
             | exact ⟨rfl, Below.refl _ _⟩
             | exact Below.refl _ _
         conv => arg 9; simp only [put_lit, put_lit_none, List.set])
      | (refine wpLex_putst (by rfl) (by rfl) undef ?_ ?_
         · intro w' hb hz
           have hcw := fun b o (h : b < w.heap.size + 1) => hb.cell (p := ⟨b, o, none⟩) h
           have hzc := fun j => cell_of_row _ _ j _ _ _ hz
           have hzf := fun j => frozen_of_row _ _ j _ _ hz
           go_simp
           first
             | exact ⟨(by repeat' (first | (with_reducible exact Below.refl _ _) | (with_reducible (refine Below.setCell ?_ ?_ _)) | omega | (simp; done))), heap_set_same hz _ _⟩
         conv => arg 9; simp only [put_lit, put_lit_none, List.set]))
    refine wpLex_nil ?_
    intro w5 d5 hd5 hC5
    obtain ⟨hb5, hx5⟩ := putC_done hC5 (hd5 7 (by decide))
    clear hC5 hd5
    have hs5 := heap_lt hx5
    have hc5 := fun b o (h : b < w.heap.size + 1) => hb5.cell (p := ⟨b, o, none⟩) h
    have hf5 := fun b o (h : b < w.heap.size + 1) => hb5.frozen (p := ⟨b, o, none⟩) h
    have hxc5 := fun j => cell_of_row _ _ j _ _ _ hx5
    have hxf5 := fun j => frozen_of_row _ _ j _ _ hx5
    have HB5 := Lib.hid hb5
    have HX5 := Lib.hid hx5
    clear hb5 hx5
    simp only [List.drop]
    go_wp2_with fail
    refine name_world ?_
    intro w6 hw6
    have HB6 := Lib.hid (show Below w.heap.size w w6 by rw [hw6]; repeat' (first | (with_reducible exact Below.refl _ _) | (with_reducible (refine Below.setCell ?_ ?_ _)) | (with_reducible (refine Below.alloc ?_ ?_ _)) | (with_reducible (refine Below.drew ?_)) | (with_reducible (refine below_via ?_ HB5.out ?_)) | omega | (simp; done) | (simp; omega)))
    have hx6 : w6.heap[w.heap.size + 1]? = some (.cells #[.int .i64 2, .int .i64 frame, .bool r, .bool dw, .bool x, .bool af, .bool false, .int .i64 soft, .int .i64 0] descT (0, 0)) := by rw [hw6]; simp [World.setCell, Array.getElem?_modify, HX5.out]
    have hy6 : w6.heap[w.heap.size]? = some (.cells #[.int .i64 stage, .int .i64 level, .int .i64 2, .int .i64 frame, .bool r, .bool dw, .bool x, .bool af, .bool ng, .int .i64 soft, .int .i64 note] 120 (0, 0)) := by
      rw [hw6]
      repeat (refine heap_far_is (by simp) ?_)
      exact (HB5.out.block _ (by simp)).trans ((heap_old _ _ (by simp)).trans (heap_new _ _))
    clear hw6 hc5 hf5 hxc5 hxf5
    have hs6 := heap_lt hx6
    have hs60 : w.heap.size < w6.heap.size := by omega
    have cx := fun j => cell_of_row _ _ j _ _ _ hx6
    have cy := fun j => cell_of_row _ _ j _ _ _ hy6
    have HX6 := Lib.hid hx6
    clear hx6 hy6
    have hw2 := i64_covers bt hbt0 hbt1
    have hp0 := covers_pos bt
    cases q
    · refine wp_region_class (fun w' => Below (w6.heap.size) (w6) w') (by kernel_rfl) (by kernel_rfl) (Below.refl _ _).drew ?_
      repeat (first
        | (refine wpLex_pass (by rfl) passes_plain ?_; (conv => arg 9; simp only [put_lit, put_lit_none, List.set]))
        | (refine wpLex_plain (by rfl) ?_
           apply Exists.intro
           refine ⟨?_, ?_⟩
           · intro w' hb
             have hsz := hb.size
             try simp at hsz
             have hcw := fun b o (h : b < w6.heap.size) => hb.cell (p := ⟨b, o, none⟩) h
             have hfw := fun b o (h : b < w6.heap.size) => hb.frozen (p := ⟨b, o, none⟩) h
             go_simp
             first
               | exact ⟨rfl, hb⟩
               | exact rfl
               | ((with_reducible refine Calls.mono (HBT.out _) ?_); rintro e w2 ⟨rfl, hb2⟩; exact ⟨_, rfl, rfl, hb.trans (hb2.mono hsz)⟩)
               | ((with_reducible refine Calls.mono (HF.out _) ?_); rintro e w2 ⟨rfl, hb2⟩; exact ⟨_, rfl, rfl, hb.trans (hb2.mono hsz)⟩)
           conv => arg 9; simp only [put_lit, put_lit_none, List.set]))
      refine wpLex_nil ?_
      intro wp hbp
      have hsp := hbp.size
      try simp at hsp
      have hcp := fun b o (h : b < w6.heap.size) => hbp.cell (p := ⟨b, o, none⟩) h
      have hfp := fun b o (h : b < w6.heap.size) => hbp.frozen (p := ⟨b, o, none⟩) h
      have HBp := Lib.hid hbp
      clear hbp
      go_wp2
      go_ret
      exact ⟨rfl, (by repeat' (first | (with_reducible exact Below.refl _ _) | (with_reducible (refine Below.setCell ?_ ?_ _)) | (with_reducible (refine Below.alloc ?_ ?_ _)) | (with_reducible (refine Below.drew ?_)) | (with_reducible (refine below_via ?_ HBp.out ?_)) | (with_reducible (refine below_via ?_ HB6.out ?_)) | omega | (simp; done) | (simp; omega)))⟩
    · cases q1 : decide (0 < level)
      · refine wp_region_class (fun w' => Below (w6.heap.size) (w6) w') (by kernel_rfl) (by kernel_rfl) (Below.refl _ _).drew ?_
        repeat (first
          | (refine wpLex_pass (by rfl) passes_plain ?_; (conv => arg 9; simp only [put_lit, put_lit_none, List.set]))
          | (refine wpLex_plain (by rfl) ?_
             apply Exists.intro
             refine ⟨?_, ?_⟩
             · intro w' hb
               have hsz := hb.size
               try simp at hsz
               have hcw := fun b o (h : b < w6.heap.size) => hb.cell (p := ⟨b, o, none⟩) h
               have hfw := fun b o (h : b < w6.heap.size) => hb.frozen (p := ⟨b, o, none⟩) h
               go_simp
               first
                 | exact ⟨rfl, hb⟩
                 | exact rfl
                 | ((with_reducible refine Calls.mono (HBT.out _) ?_); rintro e w2 ⟨rfl, hb2⟩; exact ⟨_, rfl, rfl, hb.trans (hb2.mono hsz)⟩)
                 | ((with_reducible refine Calls.mono (HF.out _) ?_); rintro e w2 ⟨rfl, hb2⟩; exact ⟨_, rfl, rfl, hb.trans (hb2.mono hsz)⟩)
             conv => arg 9; simp only [put_lit, put_lit_none, List.set]))
        refine wpLex_nil ?_
        intro wp hbp
        have hsp := hbp.size
        try simp at hsp
        have hcp := fun b o (h : b < w6.heap.size) => hbp.cell (p := ⟨b, o, none⟩) h
        have hfp := fun b o (h : b < w6.heap.size) => hbp.frozen (p := ⟨b, o, none⟩) h
        have HBp := Lib.hid hbp
        clear hbp
        go_wp2
        go_ret
        exact ⟨ret_bool (by simp [q1]), (by repeat' (first | (with_reducible exact Below.refl _ _) | (with_reducible (refine Below.setCell ?_ ?_ _)) | (with_reducible (refine Below.alloc ?_ ?_ _)) | (with_reducible (refine Below.drew ?_)) | (with_reducible (refine below_via ?_ HBp.out ?_)) | (with_reducible (refine below_via ?_ HB6.out ?_)) | omega | (simp; done) | (simp; omega)))⟩
      · by_cases h2 : 0 ≤ soft
        · have q2 : decide (0 ≤ soft) = true := by simpa using h2
          by_cases h3 : soft ≤ 15
          · have q3 : decide (soft ≤ 15) = true := by simpa using h3
            refine wp_region_class (fun w' => Below (w6.heap.size) (w6) w') (by kernel_rfl) (by kernel_rfl) (Below.refl _ _).drew ?_
            repeat (first
              | (refine wpLex_pass (by rfl) passes_plain ?_; (conv => arg 9; simp only [put_lit, put_lit_none, List.set]))
              | (refine wpLex_plain (by rfl) ?_
                 apply Exists.intro
                 refine ⟨?_, ?_⟩
                 · intro w' hb
                   have hsz := hb.size
                   try simp at hsz
                   have hcw := fun b o (h : b < w6.heap.size) => hb.cell (p := ⟨b, o, none⟩) h
                   have hfw := fun b o (h : b < w6.heap.size) => hb.frozen (p := ⟨b, o, none⟩) h
                   go_simp
                   first
                     | exact ⟨rfl, hb⟩
                     | exact rfl
                     | ((with_reducible refine Calls.mono (HBT.out _) ?_); rintro e w2 ⟨rfl, hb2⟩; exact ⟨_, rfl, rfl, hb.trans (hb2.mono hsz)⟩)
                     | ((with_reducible refine Calls.mono (HF.out _) ?_); rintro e w2 ⟨rfl, hb2⟩; exact ⟨_, rfl, rfl, hb.trans (hb2.mono hsz)⟩)
                 conv => arg 9; simp only [put_lit, put_lit_none, List.set]))
            refine wpLex_nil ?_
            intro wp hbp
            have hsp := hbp.size
            try simp at hsp
            have hcp := fun b o (h : b < w6.heap.size) => hbp.cell (p := ⟨b, o, none⟩) h
            have hfp := fun b o (h : b < w6.heap.size) => hbp.frozen (p := ⟨b, o, none⟩) h
            have HBp := Lib.hid hbp
            clear hbp
            go_wp2
            go_ret
            exact ⟨ret_bool (by rw [q1, q2, q3]; simp), (by repeat' (first | (with_reducible exact Below.refl _ _) | (with_reducible (refine Below.setCell ?_ ?_ _)) | (with_reducible (refine Below.alloc ?_ ?_ _)) | (with_reducible (refine Below.drew ?_)) | (with_reducible (refine below_via ?_ HBp.out ?_)) | (with_reducible (refine below_via ?_ HB6.out ?_)) | omega | (simp; done) | (simp; omega)))⟩
          · have q3 : decide (soft ≤ 15) = false := by simpa using h3
            clear h2 h3
            refine wp_region_class (fun w' => Below (w6.heap.size) (w6) w') (by kernel_rfl) (by kernel_rfl) (Below.refl _ _).drew ?_
            repeat (first
              | (refine wpLex_pass (by rfl) passes_plain ?_; (conv => arg 9; simp only [put_lit, put_lit_none, List.set]))
              | (refine wpLex_plain (by rfl) ?_
                 apply Exists.intro
                 refine ⟨?_, ?_⟩
                 · intro w' hb
                   have hsz := hb.size
                   try simp at hsz
                   have hcw := fun b o (h : b < w6.heap.size) => hb.cell (p := ⟨b, o, none⟩) h
                   have hfw := fun b o (h : b < w6.heap.size) => hb.frozen (p := ⟨b, o, none⟩) h
                   go_simp
                   first
                     | exact ⟨rfl, hb⟩
                     | exact rfl
                     | ((with_reducible refine Calls.mono (HBT.out _) ?_); rintro e w2 ⟨rfl, hb2⟩; exact ⟨_, rfl, rfl, hb.trans (hb2.mono hsz)⟩)
                     | ((with_reducible refine Calls.mono (HF.out _) ?_); rintro e w2 ⟨rfl, hb2⟩; exact ⟨_, rfl, rfl, hb.trans (hb2.mono hsz)⟩)
                 conv => arg 9; simp only [put_lit, put_lit_none, List.set]))
            refine wpLex_nil ?_
            intro wp hbp
            have hsp := hbp.size
            try simp at hsp
            have hcp := fun b o (h : b < w6.heap.size) => hbp.cell (p := ⟨b, o, none⟩) h
            have hfp := fun b o (h : b < w6.heap.size) => hbp.frozen (p := ⟨b, o, none⟩) h
            have HBp := Lib.hid hbp
            clear hbp
            go_wp2
            go_ret
            exact ⟨ret_bool (by rw [q1, q2, q3]; simp), (by repeat' (first | (with_reducible exact Below.refl _ _) | (with_reducible (refine Below.setCell ?_ ?_ _)) | (with_reducible (refine Below.alloc ?_ ?_ _)) | (with_reducible (refine Below.drew ?_)) | (with_reducible (refine below_via ?_ HBp.out ?_)) | (with_reducible (refine below_via ?_ HB6.out ?_)) | omega | (simp; done) | (simp; omega)))⟩
        · have q2 : decide (0 ≤ soft) = false := by simpa using h2
          clear h2
          refine wp_region_class (fun w' => Below (w6.heap.size) (w6) w') (by kernel_rfl) (by kernel_rfl) (Below.refl _ _).drew ?_
          repeat (first
            | (refine wpLex_pass (by rfl) passes_plain ?_; (conv => arg 9; simp only [put_lit, put_lit_none, List.set]))
            | (refine wpLex_plain (by rfl) ?_
               apply Exists.intro
               refine ⟨?_, ?_⟩
               · intro w' hb
                 have hsz := hb.size
                 try simp at hsz
                 have hcw := fun b o (h : b < w6.heap.size) => hb.cell (p := ⟨b, o, none⟩) h
                 have hfw := fun b o (h : b < w6.heap.size) => hb.frozen (p := ⟨b, o, none⟩) h
                 go_simp
                 first
                   | exact ⟨rfl, hb⟩
                   | exact rfl
                   | ((with_reducible refine Calls.mono (HBT.out _) ?_); rintro e w2 ⟨rfl, hb2⟩; exact ⟨_, rfl, rfl, hb.trans (hb2.mono hsz)⟩)
                   | ((with_reducible refine Calls.mono (HF.out _) ?_); rintro e w2 ⟨rfl, hb2⟩; exact ⟨_, rfl, rfl, hb.trans (hb2.mono hsz)⟩)
               conv => arg 9; simp only [put_lit, put_lit_none, List.set]))
          refine wpLex_nil ?_
          intro wp hbp
          have hsp := hbp.size
          try simp at hsp
          have hcp := fun b o (h : b < w6.heap.size) => hbp.cell (p := ⟨b, o, none⟩) h
          have hfp := fun b o (h : b < w6.heap.size) => hbp.frozen (p := ⟨b, o, none⟩) h
          have HBp := Lib.hid hbp
          clear hbp
          go_wp2
          go_ret
          exact ⟨ret_bool (by rw [q1, q2]; simp), (by repeat' (first | (with_reducible exact Below.refl _ _) | (with_reducible (refine Below.setCell ?_ ?_ _)) | (with_reducible (refine Below.alloc ?_ ?_ _)) | (with_reducible (refine Below.drew ?_)) | (with_reducible (refine below_via ?_ HBp.out ?_)) | (with_reducible (refine below_via ?_ HB6.out ?_)) | omega | (simp; done) | (simp; omega)))⟩
  · rw [if_pos rfl]
    have he := fun w => run_eql_de 2 frame r dw x af ng soft note 2 frame true dw x af ng 0 0 w
    generalize deEq _ _ = q at *
    generalize frameOk frame (2 ^ bt.toNat) = fo at *
    go_enter Try.func87, Try.ntmps87
    go_wp2_with fail
    refine wp_region_done_tail 8 (fun d w9 => PutC ((w.alloc (.cells #[.int .i64 stage, .int .i64 level, .int .i64 2, .int .i64 frame, .bool r, .bool dw, .bool x, .bool af, .bool ng, .int .i64 soft, .int .i64 note] 120)).alloc (.cells #[.int .i64 2, .int .i64 0, .bool false, .bool false, .bool false, .bool false, .bool false, .int .i64 0, .int .i64 0] descT)) (w.heap.size + 1) 7 (descT) (#[.int .i64 2, .int .i64 0, .bool false, .bool false, .bool false, .bool false, .bool false, .int .i64 0, .int .i64 0]) (#[.int .i64 2, .int .i64 frame, .bool false, .bool false, .bool false, .bool false, .bool false, .int .i64 0, .int .i64 0]) d w9) (by kernel_rfl) (by kernel_rfl) (by kernel_rfl) (putC_start (by first | assumption | exact heap_at _ _ (by simp; done) | exact (heap_old _ _ (by simp; done)).trans (heap_at _ _ (by simp; done)))) ?_
    repeat (first
      | (refine wpLex_pass (by rfl) (passes_done fun d w _ hc => putC_step hc (Below.refl _ _) (by rfl)) ?_; (conv => arg 9; simp only [put_lit, put_lit_none, List.set]))
      | (refine wpLex_putc (by rfl) (by rfl) ?_
         apply Exists.intro
         refine ⟨?_, ?_⟩
         · intro w' hb
           have hsz := hb.size
           try simp at hsz
           have hcw := fun b o (h : b < w.heap.size + 1) => hb.cell (p := ⟨b, o, none⟩) h
           have hfw := fun b o (h : b < w.heap.size + 1) => hb.frozen (p := ⟨b, o, none⟩) h
           go_simp
           first
             | exact ⟨rfl, Below.refl _ _⟩
             | exact Below.refl _ _
         conv => arg 9; simp only [put_lit, put_lit_none, List.set])
      | (refine wpLex_putst (by rfl) (by rfl) undef ?_ ?_
         · intro w' hb hz
           have hcw := fun b o (h : b < w.heap.size + 1) => hb.cell (p := ⟨b, o, none⟩) h
           have hzc := fun j => cell_of_row _ _ j _ _ _ hz
           have hzf := fun j => frozen_of_row _ _ j _ _ hz
           go_simp
           first
             | exact ⟨(by repeat' (first | (with_reducible exact Below.refl _ _) | (with_reducible (refine Below.setCell ?_ ?_ _)) | omega | (simp; done))), heap_set_same hz _ _⟩
         conv => arg 9; simp only [put_lit, put_lit_none, List.set]))
    refine wpLex_nil ?_
    intro w5 d5 hd5 hC5
    obtain ⟨hb5, hx5⟩ := putC_done hC5 (hd5 7 (by decide))
    clear hC5 hd5
    have hs5 := heap_lt hx5
    have hc5 := fun b o (h : b < w.heap.size + 1) => hb5.cell (p := ⟨b, o, none⟩) h
    have hf5 := fun b o (h : b < w.heap.size + 1) => hb5.frozen (p := ⟨b, o, none⟩) h
    have hxc5 := fun j => cell_of_row _ _ j _ _ _ hx5
    have hxf5 := fun j => frozen_of_row _ _ j _ _ hx5
    have HB5 := Lib.hid hb5
    have HX5 := Lib.hid hx5
    clear hb5 hx5
    simp only [List.drop]
    go_wp2_with fail
    refine name_world ?_
    intro w6 hw6
    have HB6 := Lib.hid (show Below w.heap.size w w6 by rw [hw6]; repeat' (first | (with_reducible exact Below.refl _ _) | (with_reducible (refine Below.setCell ?_ ?_ _)) | (with_reducible (refine Below.alloc ?_ ?_ _)) | (with_reducible (refine Below.drew ?_)) | (with_reducible (refine below_via ?_ HB5.out ?_)) | omega | (simp; done) | (simp; omega)))
    have hx6 : w6.heap[w.heap.size + 1]? = some (.cells #[.int .i64 2, .int .i64 frame, .bool true, .bool dw, .bool x, .bool af, .bool ng, .int .i64 0, .int .i64 0] descT (0, 0)) := by rw [hw6]; simp [World.setCell, Array.getElem?_modify, HX5.out]
    have hy6 : w6.heap[w.heap.size]? = some (.cells #[.int .i64 stage, .int .i64 level, .int .i64 2, .int .i64 frame, .bool r, .bool dw, .bool x, .bool af, .bool ng, .int .i64 soft, .int .i64 note] 120 (0, 0)) := by
      rw [hw6]
      repeat (refine heap_far_is (by simp) ?_)
      exact (HB5.out.block _ (by simp)).trans ((heap_old _ _ (by simp)).trans (heap_new _ _))
    clear hw6 hc5 hf5 hxc5 hxf5
    have hs6 := heap_lt hx6
    have hs60 : w.heap.size < w6.heap.size := by omega
    have cx := fun j => cell_of_row _ _ j _ _ _ hx6
    have cy := fun j => cell_of_row _ _ j _ _ _ hy6
    have HX6 := Lib.hid hx6
    clear hx6 hy6
    have hw2 := i64_covers bt hbt0 hbt1
    have hp0 := covers_pos bt
    cases q
    · refine wp_region_class (fun w' => Below (w6.heap.size) (w6) w') (by kernel_rfl) (by kernel_rfl) (Below.refl _ _).drew ?_
      repeat (first
        | (refine wpLex_pass (by rfl) passes_plain ?_; (conv => arg 9; simp only [put_lit, put_lit_none, List.set]))
        | (refine wpLex_plain (by rfl) ?_
           apply Exists.intro
           refine ⟨?_, ?_⟩
           · intro w' hb
             have hsz := hb.size
             try simp at hsz
             have hcw := fun b o (h : b < w6.heap.size) => hb.cell (p := ⟨b, o, none⟩) h
             have hfw := fun b o (h : b < w6.heap.size) => hb.frozen (p := ⟨b, o, none⟩) h
             go_simp
             first
               | exact ⟨rfl, hb⟩
               | exact rfl
               | ((with_reducible refine Calls.mono (HBT.out _) ?_); rintro e w2 ⟨rfl, hb2⟩; exact ⟨_, rfl, rfl, hb.trans (hb2.mono hsz)⟩)
               | ((with_reducible refine Calls.mono (HF.out _) ?_); rintro e w2 ⟨rfl, hb2⟩; exact ⟨_, rfl, rfl, hb.trans (hb2.mono hsz)⟩)
           conv => arg 9; simp only [put_lit, put_lit_none, List.set]))
      refine wpLex_nil ?_
      intro wp hbp
      have hsp := hbp.size
      try simp at hsp
      have hcp := fun b o (h : b < w6.heap.size) => hbp.cell (p := ⟨b, o, none⟩) h
      have hfp := fun b o (h : b < w6.heap.size) => hbp.frozen (p := ⟨b, o, none⟩) h
      have HBp := Lib.hid hbp
      clear hbp
      go_wp2
      go_ret
      exact ⟨rfl, (by repeat' (first | (with_reducible exact Below.refl _ _) | (with_reducible (refine Below.setCell ?_ ?_ _)) | (with_reducible (refine Below.alloc ?_ ?_ _)) | (with_reducible (refine Below.drew ?_)) | (with_reducible (refine below_via ?_ HBp.out ?_)) | (with_reducible (refine below_via ?_ HB6.out ?_)) | omega | (simp; done) | (simp; omega)))⟩
    · cases q1 : decide (0 < level)
      · refine wp_region_class (fun w' => Below (w6.heap.size) (w6) w') (by kernel_rfl) (by kernel_rfl) (Below.refl _ _).drew ?_
        repeat (first
          | (refine wpLex_pass (by rfl) passes_plain ?_; (conv => arg 9; simp only [put_lit, put_lit_none, List.set]))
          | (refine wpLex_plain (by rfl) ?_
             apply Exists.intro
             refine ⟨?_, ?_⟩
             · intro w' hb
               have hsz := hb.size
               try simp at hsz
               have hcw := fun b o (h : b < w6.heap.size) => hb.cell (p := ⟨b, o, none⟩) h
               have hfw := fun b o (h : b < w6.heap.size) => hb.frozen (p := ⟨b, o, none⟩) h
               go_simp
               first
                 | exact ⟨rfl, hb⟩
                 | exact rfl
                 | ((with_reducible refine Calls.mono (HBT.out _) ?_); rintro e w2 ⟨rfl, hb2⟩; exact ⟨_, rfl, rfl, hb.trans (hb2.mono hsz)⟩)
                 | ((with_reducible refine Calls.mono (HF.out _) ?_); rintro e w2 ⟨rfl, hb2⟩; exact ⟨_, rfl, rfl, hb.trans (hb2.mono hsz)⟩)
             conv => arg 9; simp only [put_lit, put_lit_none, List.set]))
        refine wpLex_nil ?_
        intro wp hbp
        have hsp := hbp.size
        try simp at hsp
        have hcp := fun b o (h : b < w6.heap.size) => hbp.cell (p := ⟨b, o, none⟩) h
        have hfp := fun b o (h : b < w6.heap.size) => hbp.frozen (p := ⟨b, o, none⟩) h
        have HBp := Lib.hid hbp
        clear hbp
        go_wp2
        go_ret
        exact ⟨ret_bool (by simp [q1]), (by repeat' (first | (with_reducible exact Below.refl _ _) | (with_reducible (refine Below.setCell ?_ ?_ _)) | (with_reducible (refine Below.alloc ?_ ?_ _)) | (with_reducible (refine Below.drew ?_)) | (with_reducible (refine below_via ?_ HBp.out ?_)) | (with_reducible (refine below_via ?_ HB6.out ?_)) | omega | (simp; done) | (simp; omega)))⟩
      · by_cases h2 : 0 ≤ soft
        · have q2 : decide (0 ≤ soft) = true := by simpa using h2
          by_cases h3 : soft ≤ 15
          · have q3 : decide (soft ≤ 15) = true := by simpa using h3
            refine wp_region_class (fun w' => Below (w6.heap.size) (w6) w') (by kernel_rfl) (by kernel_rfl) (Below.refl _ _).drew ?_
            repeat (first
              | (refine wpLex_pass (by rfl) passes_plain ?_; (conv => arg 9; simp only [put_lit, put_lit_none, List.set]))
              | (refine wpLex_plain (by rfl) ?_
                 apply Exists.intro
                 refine ⟨?_, ?_⟩
                 · intro w' hb
                   have hsz := hb.size
                   try simp at hsz
                   have hcw := fun b o (h : b < w6.heap.size) => hb.cell (p := ⟨b, o, none⟩) h
                   have hfw := fun b o (h : b < w6.heap.size) => hb.frozen (p := ⟨b, o, none⟩) h
                   go_simp
                   first
                     | exact ⟨rfl, hb⟩
                     | exact rfl
                     | ((with_reducible refine Calls.mono (HBT.out _) ?_); rintro e w2 ⟨rfl, hb2⟩; exact ⟨_, rfl, rfl, hb.trans (hb2.mono hsz)⟩)
                     | ((with_reducible refine Calls.mono (HF.out _) ?_); rintro e w2 ⟨rfl, hb2⟩; exact ⟨_, rfl, rfl, hb.trans (hb2.mono hsz)⟩)
                 conv => arg 9; simp only [put_lit, put_lit_none, List.set]))
            refine wpLex_nil ?_
            intro wp hbp
            have hsp := hbp.size
            try simp at hsp
            have hcp := fun b o (h : b < w6.heap.size) => hbp.cell (p := ⟨b, o, none⟩) h
            have hfp := fun b o (h : b < w6.heap.size) => hbp.frozen (p := ⟨b, o, none⟩) h
            have HBp := Lib.hid hbp
            clear hbp
            go_wp2
            go_ret
            exact ⟨ret_bool (by rw [q1, q2, q3]; simp), (by repeat' (first | (with_reducible exact Below.refl _ _) | (with_reducible (refine Below.setCell ?_ ?_ _)) | (with_reducible (refine Below.alloc ?_ ?_ _)) | (with_reducible (refine Below.drew ?_)) | (with_reducible (refine below_via ?_ HBp.out ?_)) | (with_reducible (refine below_via ?_ HB6.out ?_)) | omega | (simp; done) | (simp; omega)))⟩
          · have q3 : decide (soft ≤ 15) = false := by simpa using h3
            clear h2 h3
            refine wp_region_class (fun w' => Below (w6.heap.size) (w6) w') (by kernel_rfl) (by kernel_rfl) (Below.refl _ _).drew ?_
            repeat (first
              | (refine wpLex_pass (by rfl) passes_plain ?_; (conv => arg 9; simp only [put_lit, put_lit_none, List.set]))
              | (refine wpLex_plain (by rfl) ?_
                 apply Exists.intro
                 refine ⟨?_, ?_⟩
                 · intro w' hb
                   have hsz := hb.size
                   try simp at hsz
                   have hcw := fun b o (h : b < w6.heap.size) => hb.cell (p := ⟨b, o, none⟩) h
                   have hfw := fun b o (h : b < w6.heap.size) => hb.frozen (p := ⟨b, o, none⟩) h
                   go_simp
                   first
                     | exact ⟨rfl, hb⟩
                     | exact rfl
                     | ((with_reducible refine Calls.mono (HBT.out _) ?_); rintro e w2 ⟨rfl, hb2⟩; exact ⟨_, rfl, rfl, hb.trans (hb2.mono hsz)⟩)
                     | ((with_reducible refine Calls.mono (HF.out _) ?_); rintro e w2 ⟨rfl, hb2⟩; exact ⟨_, rfl, rfl, hb.trans (hb2.mono hsz)⟩)
                 conv => arg 9; simp only [put_lit, put_lit_none, List.set]))
            refine wpLex_nil ?_
            intro wp hbp
            have hsp := hbp.size
            try simp at hsp
            have hcp := fun b o (h : b < w6.heap.size) => hbp.cell (p := ⟨b, o, none⟩) h
            have hfp := fun b o (h : b < w6.heap.size) => hbp.frozen (p := ⟨b, o, none⟩) h
            have HBp := Lib.hid hbp
            clear hbp
            go_wp2
            go_ret
            exact ⟨ret_bool (by rw [q1, q2, q3]; simp), (by repeat' (first | (with_reducible exact Below.refl _ _) | (with_reducible (refine Below.setCell ?_ ?_ _)) | (with_reducible (refine Below.alloc ?_ ?_ _)) | (with_reducible (refine Below.drew ?_)) | (with_reducible (refine below_via ?_ HBp.out ?_)) | (with_reducible (refine below_via ?_ HB6.out ?_)) | omega | (simp; done) | (simp; omega)))⟩
        · have q2 : decide (0 ≤ soft) = false := by simpa using h2
          clear h2
          refine wp_region_class (fun w' => Below (w6.heap.size) (w6) w') (by kernel_rfl) (by kernel_rfl) (Below.refl _ _).drew ?_
          repeat (first
            | (refine wpLex_pass (by rfl) passes_plain ?_; (conv => arg 9; simp only [put_lit, put_lit_none, List.set]))
            | (refine wpLex_plain (by rfl) ?_
               apply Exists.intro
               refine ⟨?_, ?_⟩
               · intro w' hb
                 have hsz := hb.size
                 try simp at hsz
                 have hcw := fun b o (h : b < w6.heap.size) => hb.cell (p := ⟨b, o, none⟩) h
                 have hfw := fun b o (h : b < w6.heap.size) => hb.frozen (p := ⟨b, o, none⟩) h
                 go_simp
                 first
                   | exact ⟨rfl, hb⟩
                   | exact rfl
                   | ((with_reducible refine Calls.mono (HBT.out _) ?_); rintro e w2 ⟨rfl, hb2⟩; exact ⟨_, rfl, rfl, hb.trans (hb2.mono hsz)⟩)
                   | ((with_reducible refine Calls.mono (HF.out _) ?_); rintro e w2 ⟨rfl, hb2⟩; exact ⟨_, rfl, rfl, hb.trans (hb2.mono hsz)⟩)
               conv => arg 9; simp only [put_lit, put_lit_none, List.set]))
          refine wpLex_nil ?_
          intro wp hbp
          have hsp := hbp.size
          try simp at hsp
          have hcp := fun b o (h : b < w6.heap.size) => hbp.cell (p := ⟨b, o, none⟩) h
          have hfp := fun b o (h : b < w6.heap.size) => hbp.frozen (p := ⟨b, o, none⟩) h
          have HBp := Lib.hid hbp
          clear hbp
          go_wp2
          go_ret
          exact ⟨ret_bool (by rw [q1, q2]; simp), (by repeat' (first | (with_reducible exact Below.refl _ _) | (with_reducible (refine Below.setCell ?_ ?_ _)) | (with_reducible (refine Below.alloc ?_ ?_ _)) | (with_reducible (refine Below.drew ?_)) | (with_reducible (refine below_via ?_ HBp.out ?_)) | (with_reducible (refine below_via ?_ HB6.out ?_)) | omega | (simp; done) | (simp; omega)))⟩

set_option maxRecDepth 100000 in
set_option maxHeartbeats 1000000 in
theorem mayElse_any (stage level : Int) (d : De) (hk : d.kind ≠ 0 ∧ d.kind ≠ 1 ∧ d.kind ≠ 2) (w : World) :
    Calls Try.prog 87 #[.agg (.int .i64 stage :: .int .i64 level :: d.cells).toArray] w fun e w' => e = .returned (.bool (mayDe stage level d)) ∧ Below w.heap.size w w' := by
  obtain ⟨kind, frame, r, dw, x, af, ng, soft, note⟩ := d
  obtain ⟨h0, h1, h2⟩ := hk
  unfold mayDe
  dsimp only [De.cells] at *
  rw [if_neg h0, if_neg h1, if_neg h2]
  have q0 : (kind == 0) = false := by simpa using h0
  have q1 : (kind == 1) = false := by simpa using h1
  have q2 : (kind == 2) = false := by simpa using h2
  clear h0 h1 h2
  go_enter Try.func87, Try.ntmps87
  go_wp2
  go_ret
  exact ⟨rfl, (by repeat' (first | (with_reducible exact Below.refl _ _) | (with_reducible (refine Below.setCell ?_ ?_ _)) | (with_reducible (refine Below.alloc ?_ ?_ _)) | (with_reducible (refine Below.drew ?_)) | omega | (simp; done) | (simp; omega)))⟩

theorem may_any (stage level : Int) (d : De) (h0 : 0 ≤ level) (h1 : level ≤ 3) (w : World) :
    Calls Try.prog 87 #[.agg (.int .i64 stage :: .int .i64 level :: d.cells).toArray] w fun e w' => e = .returned (.bool (mayDe stage level d)) ∧ Below w.heap.size w w' := by
  by_cases k0 : d.kind = 0
  · exact mayNone_any stage level d k0 w
  by_cases k1 : d.kind = 1
  · exact mayTable_any stage level d k1 w
  by_cases k2 : d.kind = 2
  · exact mayLeaf_any stage level d k2 h0 h1 w
  · exact mayElse_any stage level d ⟨k0, k1, k2⟩ w

end Go.Proofs.Ytddbndmbcdeggaa
