/-
  Rows of entries, and of what takes entries away: copied, cloned, the same. Conditions: the lengths fit.
-/
import Derived.Test.YtbaninglcafhhaaChkA
namespace Go.Proofs.Ytbaninglcafhhaa
open Go.RowKit

theorem below_grown1 {w w' : World} {o : Obj} {n c : Nat} (h : (w.alloc o).grownBy w' (Value.slice (some ⟨w.heap.size, 0, none⟩) n c).ownBlock) : Below w.heap.size w w' :=
  ((Below.refl _ _).alloc (Nat.le_refl _) o).grown h (by simp) (fun k hk => by simp [Value.ownBlock] at hk; omega)

theorem ent_info : (Try.prog.info? entT).map (fun i => (i.zero, i.size, i.bytes)) = some (some (.agg #[.int .i64 0, .int .i64 0, .int .i64 0, .bool false, .int .i64 0, .int .i64 0, .int .i64 0, .int .i64 0, .bool false, .bool false, .bool false, .bool false, .bool false, .int .i64 0]), 14, 80) := by kernel_rfl
theorem ent_one {l : List Ent} (u : Value) (h : u ∈ l.flatMap Ent.cells) : u.oneCell' = true := by
  obtain ⟨a, _, ha⟩ := List.mem_flatMap.1 h
  simp only [Ent.cells, List.mem_cons, List.not_mem_nil, or_false] at ha
  rcases ha with rfl | rfl | rfl | rfl | rfl | rfl | rfl | rfl | rfl | rfl | rfl | rfl | rfl | rfl <;> rfl

set_option maxRecDepth 100000 in
set_option maxHeartbeats 4000000 in
theorem Copy_ent (A : Option Addr) (c : Nat) (xs : List Ent) (w : World) (hx : xs.length ≤ 1000000) (hA : At w A 14 Ent.cells xs) :
    Calls Try.prog 72 #[.slice A xs.length c] w fun e w' => ∃ A' c', e = .returned (.slice A' xs.length c') ∧ Own w' w.heap.size entT 14 Ent.cells xs A' c' ∧ Below w.heap.size w w' := by
  obtain ⟨i0, hi0, hz0, hz1, hz2⟩ := info_parts ent_info
  have HA := Lib.hid hA
  clear hA
  go_enter Try.func72, Try.ntmps72
  go_wp2
  go_loopw [3, 4] (fun v i wr => ∃ k : Nat, k ≤ xs.length ∧ i = .int .i64 k ∧ wr.ownsRow w.heap.size entT 14 v k ((xs.take k).flatMap Ent.cells) ∧ Below w.heap.size w wr) (fun _ i _ => xs.length - (intOf i).toNat)
  case atStart => exact ⟨0, Nat.zero_le _, rfl, World.ownsRow_nil _ _ _ _, Below.refl _ _⟩
  case round =>
    obtain ⟨k, hk, rfl, hown, hbw⟩ := hrel
    have HOWN := Lib.hid hown
    clear hown
    have HBW := Lib.hid hbw
    have hsz := hbw.size
    clear hbw
    by_cases hlt : k < xs.length
    · obtain ⟨ba, oa, rfl, hba, hc⟩ := at_cells HA.out HBW.out hlt
      obtain ⟨x, hxk⟩ : ∃ x, xs[k] = x := ⟨_, rfl⟩
      rw [hxk] at hc
      have HXK := Lib.hid hxk
      clear hxk
      obtain ⟨a0, a1, a2, a3, a4, a5, a6, a7, a8, a9, a10, a11, a12, a13⟩ := x
      have c0 := hc 0 _ rfl
      have c1 := hc 1 _ rfl
      have c2 := hc 2 _ rfl
      have c3 := hc 3 _ rfl
      have c4 := hc 4 _ rfl
      have c5 := hc 5 _ rfl
      have c6 := hc 6 _ rfl
      have c7 := hc 7 _ rfl
      have c8 := hc 8 _ rfl
      have c9 := hc 9 _ rfl
      have c10 := hc 10 _ rfl
      have c11 := hc 11 _ rfl
      have c12 := hc 12 _ rfl
      have c13 := hc 13 _ rfl
      clear hc
      simp only [Nat.add_zero] at c0
      have hki : (k : Int) < xs.length := by omega
      go_wp2_with (at_builtin; refine wpList_push rfl (.tmp 11) (.tmp 16) _ rfl w.heap.size entT i0 _ 14 80 Try.underlying24 hi0 hz0 hz1 hz2 rfl (by omega) _ k _ rfl HOWN.out #[.int .i64 a0, .int .i64 a1, .int .i64 a2, .bool a3, .int .i64 a4, .int .i64 a5, .int .i64 a6, .int .i64 a7, .bool a8, .bool a9, .bool a10, .bool a11, .bool a12, .int .i64 a13] rfl (by simp [Value.oneCell']) rfl (by simp only [maxLen]; omega) (by omega) hsz ?_; intro v5 w5 hown5 hb5; have HOWN5 := Lib.hid hown5; have HB5 := Lib.hid hb5; clear hown5 hb5)
      go_roundw
      case rel => exact ⟨k + 1, by omega, by go_num, by rw [take_snoc_get xs k hlt, List.flatMap_append, HXK.out]; exact HOWN5.out, (by repeat' (first | (with_reducible exact Below.refl _ _) | (with_reducible (refine Below.setCell ?_ ?_ _)) | (with_reducible (refine Below.alloc ?_ ?_ _)) | (with_reducible (refine Below.drew ?_)) | (with_reducible (refine below_via ?_ HB5.out ?_)) | (with_reducible (refine below_via ?_ HBW.out ?_)) | omega | (simp; done) | (simp; omega)))⟩
      case measure => simp [intOf]; omega
    · obtain ⟨A', c', rfl, ho⟩ := own_form (by have := HOWN.out; rw [List.take_of_length_le (by omega), show k = xs.length by omega] at this; exact this)
      go_wp2
      go_ret
      exact ⟨A', c', rfl, ho, HBW.out⟩

set_option maxRecDepth 100000 in
set_option maxHeartbeats 4000000 in
theorem Eq_ent (A B : Option Addr) (ca cb : Nat) (xs : List Ent) (w : World) (hx : xs.length ≤ 140737488355328) (hA : At w A 14 Ent.cells xs) (hB : At w B 14 Ent.cells xs) :
    Calls Try.prog 30 #[.slice A xs.length ca, .slice B xs.length cb] w fun e w' => e = .returned (.bool true) ∧ Below w.heap.size w w' := by
  have HA := Lib.hid hA
  have HB := Lib.hid hB
  clear hA hB
  go_enter Try.func30, Try.ntmps30
  go_wp2
  go_loopw [5] (fun i wr => ∃ k : Nat, k ≤ xs.length ∧ i = .int .i64 k ∧ Below w.heap.size w wr) (fun i _ => xs.length - (intOf i).toNat)
  case atStart => exact ⟨0, Nat.zero_le _, rfl, Below.refl _ _⟩
  case round =>
    obtain ⟨k, hk, rfl, hbw⟩ := hrel
    have HBW := Lib.hid hbw
    have hsw := hbw.size
    clear hbw
    by_cases hlt : k < xs.length
    · obtain ⟨ba, oa, rfl, hba, hc⟩ := at_cells HA.out HBW.out hlt
      obtain ⟨bb, ob, rfl, hbb, hd⟩ := at_cells HB.out HBW.out hlt
      generalize xs[k] = x at *
      have hba2 : ba < wr.heap.size := by omega
      have hbb2 : bb < wr.heap.size := by omega
      have hr := entEq_refl x
      obtain ⟨a0, a1, a2, a3, a4, a5, a6, a7, a8, a9, a10, a11, a12, a13⟩ := x
      have he := fun W => run_neq_ent a0 a1 a2 a3 a4 a5 a6 a7 a8 a9 a10 a11 a12 a13 a0 a1 a2 a3 a4 a5 a6 a7 a8 a9 a10 a11 a12 a13 W
      rw [hr] at he
      simp only [Bool.not_true] at he
      clear hr
      have c0 := hc 0 _ rfl
      have c1 := hc 1 _ rfl
      have c2 := hc 2 _ rfl
      have c3 := hc 3 _ rfl
      have c4 := hc 4 _ rfl
      have c5 := hc 5 _ rfl
      have c6 := hc 6 _ rfl
      have c7 := hc 7 _ rfl
      have c8 := hc 8 _ rfl
      have c9 := hc 9 _ rfl
      have c10 := hc 10 _ rfl
      have c11 := hc 11 _ rfl
      have c12 := hc 12 _ rfl
      have c13 := hc 13 _ rfl
      have d0 := hd 0 _ rfl
      have d1 := hd 1 _ rfl
      have d2 := hd 2 _ rfl
      have d3 := hd 3 _ rfl
      have d4 := hd 4 _ rfl
      have d5 := hd 5 _ rfl
      have d6 := hd 6 _ rfl
      have d7 := hd 7 _ rfl
      have d8 := hd 8 _ rfl
      have d9 := hd 9 _ rfl
      have d10 := hd 10 _ rfl
      have d11 := hd 11 _ rfl
      have d12 := hd 12 _ rfl
      have d13 := hd 13 _ rfl
      clear hc hd
      simp only [Nat.add_zero] at c0 d0
      have hki : (k : Int) < xs.length := by omega
      go_wp2_with fail
      refine wp_region_class (fun w' => Below (wr.heap.size) (wr) w') (by kernel_rfl) (by kernel_rfl) (Below.refl _ _).drew ?_
      repeat (first
        | (refine wpLex_pass (by rfl) passes_plain ?_; (conv => arg 9; simp only [put_lit, put_lit_none, List.set]))
        | (refine wpLex_plain (by rfl) ?_
           apply Exists.intro
           refine ⟨?_, ?_⟩
           · intro w' hb
             have hsz := hb.size
             try simp at hsz
             have hcw := fun b o (h : b < wr.heap.size) => hb.cell (p := ⟨b, o, none⟩) h
             have hfw := fun b o (h : b < wr.heap.size) => hb.frozen (p := ⟨b, o, none⟩) h
             go_simp
             first
               | exact ⟨rfl, hb⟩
               | exact rfl
           conv => arg 9; simp only [put_lit, put_lit_none, List.set]))
      refine wpLex_nil ?_
      intro wq hbq
      have hsq := hbq.size
      try simp at hsq
      have hcq := fun b o (h : b < wr.heap.size) => hbq.cell (p := ⟨b, o, none⟩) h
      have hfq := fun b o (h : b < wr.heap.size) => hbq.frozen (p := ⟨b, o, none⟩) h
      have HBq := Lib.hid hbq
      clear hbq
      clear c0 c1 c2 c3 c4 c5 c6 c7 c8 c9 c10 c11 c12 c13 d0 d1 d2 d3 d4 d5 d6 d7 d8 d9 d10 d11 d12 d13 hcq hfq
      go_wp2
      go_roundw
      case rel => exact ⟨k + 1, by omega, by go_num, (by repeat' (first | (with_reducible exact Below.refl _ _) | (with_reducible (refine Below.setCell ?_ ?_ _)) | (with_reducible (refine Below.alloc ?_ ?_ _)) | (with_reducible (refine Below.drew ?_)) | (with_reducible (refine below_via ?_ HBq.out ?_)) | (with_reducible (refine below_via ?_ HBW.out ?_)) | omega | (simp; done) | (simp; omega)))⟩
      case measure => simp [intOf]; omega
    · go_wp2
      go_ret
      exact ⟨rfl, HBW.out⟩

set_option maxRecDepth 100000 in
set_option maxHeartbeats 4000000 in
theorem Clone_ent (A : Option Addr) (c : Nat) (xs : List Ent) (w : World) (hn : xs.length ≤ 1000000) (hA : At w A 14 Ent.cells xs) :
    Calls Try.prog 91 #[.slice A xs.length c] w fun e w' => ∃ A' c', e = .returned (.slice A' xs.length c') ∧ Own w' w.heap.size entT 14 Ent.cells xs A' c' ∧ Below w.heap.size w w' := by
  cases A with
  | none =>
    have h0 : xs = [] := by
      cases xs with
      | nil => rfl
      | cons x l => obtain ⟨_, _, h, _⟩ := hA (by simp); cases h
    subst h0
    have he := fun (W : World) => Lib.run_eql_slice_nil (P := Try.prog) W _ _ none 0 c 0 0 Try.underlying24
    go_enter Try.func91, Try.ntmps91
    go_wp2
    go_ret
    exact ⟨_, _, rfl, World.ownsRow_nil _ _ _ _, Below.refl _ _⟩
  | some a =>
    obtain ⟨i0, hi0, hz0, hz1, hz2⟩ := info_parts ent_info
    have HA := Lib.hid hA
    have HOWN := Lib.hid (World.ownsRow_lit (base := w.heap.size) (size := 14) (e := entT) w #[] 0 (Nat.le_refl _) (by decide) rfl)
    have he := fun (W : World) => Lib.run_eql_slice_nil (P := Try.prog) W _ _ (some a) xs.length c 0 0 Try.underlying24
    simp only [Option.isNone] at he
    clear hA
    go_enter Try.func91, Try.ntmps91
    go_wp2_with (first
      | (at_builtin
         refine wpList_append_any _ rfl (.tmp 5) (.tmp 6) _ rfl w.heap.size entT i0 _ 14 80 Try.underlying24 hi0 hz0 hz1 hz2 rfl (by omega) _ 0 _ rfl HOWN.out (w.alloc (.cells #[] entT)).heap.size (some a) xs.length c (xs.flatMap Ent.cells) rfl
           ((HA.out.below ((Below.refl _ _).alloc (Nat.le_refl _) _)).reads ent_len) (by intro u hu; exact ent_one _ hu) (by simp only [maxLen]; omega) (by omega) (by simp) ?_
         intro v2 w2 hown2 hg2 hat2
         have HG2 := Lib.hid (below_grown1 hg2)
         have HO2 := Lib.hid hown2
         clear hown2 hg2 hat2))
    obtain ⟨A', c', rfl, ho⟩ := own_form (by simpa using HO2.out)
    go_ret
    exact ⟨A', c', rfl, ho, HG2.out⟩

theorem inv_info : (Try.prog.info? invT).map (fun i => (i.zero, i.size, i.bytes)) = some (some (.agg #[.int .i64 0, .int .i64 0, .int .i64 0, .int .i64 0]), 4, 32) := by kernel_rfl
theorem inv_one {l : List Inv} (u : Value) (h : u ∈ l.flatMap Inv.cells) : u.oneCell' = true := by
  obtain ⟨a, _, ha⟩ := List.mem_flatMap.1 h
  simp only [Inv.cells, List.mem_cons, List.not_mem_nil, or_false] at ha
  rcases ha with rfl | rfl | rfl | rfl <;> rfl

set_option maxRecDepth 100000 in
set_option maxHeartbeats 4000000 in
theorem Copy_inv (A : Option Addr) (c : Nat) (xs : List Inv) (w : World) (hx : xs.length ≤ 1000000) (hA : At w A 4 Inv.cells xs) :
    Calls Try.prog 35 #[.slice A xs.length c] w fun e w' => ∃ A' c', e = .returned (.slice A' xs.length c') ∧ Own w' w.heap.size invT 4 Inv.cells xs A' c' ∧ Below w.heap.size w w' := by
  obtain ⟨i0, hi0, hz0, hz1, hz2⟩ := info_parts inv_info
  have HA := Lib.hid hA
  clear hA
  go_enter Try.func35, Try.ntmps35
  go_wp2
  go_loopw [3, 4] (fun v i wr => ∃ k : Nat, k ≤ xs.length ∧ i = .int .i64 k ∧ wr.ownsRow w.heap.size invT 4 v k ((xs.take k).flatMap Inv.cells) ∧ Below w.heap.size w wr) (fun _ i _ => xs.length - (intOf i).toNat)
  case atStart => exact ⟨0, Nat.zero_le _, rfl, World.ownsRow_nil _ _ _ _, Below.refl _ _⟩
  case round =>
    obtain ⟨k, hk, rfl, hown, hbw⟩ := hrel
    have HOWN := Lib.hid hown
    clear hown
    have HBW := Lib.hid hbw
    have hsz := hbw.size
    clear hbw
    by_cases hlt : k < xs.length
    · obtain ⟨ba, oa, rfl, hba, hc⟩ := at_cells HA.out HBW.out hlt
      obtain ⟨x, hxk⟩ : ∃ x, xs[k] = x := ⟨_, rfl⟩
      rw [hxk] at hc
      have HXK := Lib.hid hxk
      clear hxk
      obtain ⟨a0, a1, a2, a3⟩ := x
      have c0 := hc 0 _ rfl
      have c1 := hc 1 _ rfl
      have c2 := hc 2 _ rfl
      have c3 := hc 3 _ rfl
      clear hc
      simp only [Nat.add_zero] at c0
      have hki : (k : Int) < xs.length := by omega
      go_wp2_with (at_builtin; refine wpList_push rfl (.tmp 11) (.tmp 16) _ rfl w.heap.size invT i0 _ 4 32 Try.underlying23 hi0 hz0 hz1 hz2 rfl (by omega) _ k _ rfl HOWN.out #[.int .i64 a0, .int .i64 a1, .int .i64 a2, .int .i64 a3] rfl (by simp [Value.oneCell']) rfl (by simp only [maxLen]; omega) (by omega) hsz ?_; intro v5 w5 hown5 hb5; have HOWN5 := Lib.hid hown5; have HB5 := Lib.hid hb5; clear hown5 hb5)
      go_roundw
      case rel => exact ⟨k + 1, by omega, by go_num, by rw [take_snoc_get xs k hlt, List.flatMap_append, HXK.out]; exact HOWN5.out, (by repeat' (first | (with_reducible exact Below.refl _ _) | (with_reducible (refine Below.setCell ?_ ?_ _)) | (with_reducible (refine Below.alloc ?_ ?_ _)) | (with_reducible (refine Below.drew ?_)) | (with_reducible (refine below_via ?_ HB5.out ?_)) | (with_reducible (refine below_via ?_ HBW.out ?_)) | omega | (simp; done) | (simp; omega)))⟩
      case measure => simp [intOf]; omega
    · obtain ⟨A', c', rfl, ho⟩ := own_form (by have := HOWN.out; rw [List.take_of_length_le (by omega), show k = xs.length by omega] at this; exact this)
      go_wp2
      go_ret
      exact ⟨A', c', rfl, ho, HBW.out⟩

set_option maxRecDepth 100000 in
set_option maxHeartbeats 4000000 in
theorem Eq_inv (A B : Option Addr) (ca cb : Nat) (xs : List Inv) (w : World) (hx : xs.length ≤ 140737488355328) (hA : At w A 4 Inv.cells xs) (hB : At w B 4 Inv.cells xs) :
    Calls Try.prog 40 #[.slice A xs.length ca, .slice B xs.length cb] w fun e w' => e = .returned (.bool true) ∧ Below w.heap.size w w' := by
  have HA := Lib.hid hA
  have HB := Lib.hid hB
  clear hA hB
  go_enter Try.func40, Try.ntmps40
  go_wp2
  go_loopw [5] (fun i wr => ∃ k : Nat, k ≤ xs.length ∧ i = .int .i64 k ∧ Below w.heap.size w wr) (fun i _ => xs.length - (intOf i).toNat)
  case atStart => exact ⟨0, Nat.zero_le _, rfl, Below.refl _ _⟩
  case round =>
    obtain ⟨k, hk, rfl, hbw⟩ := hrel
    have HBW := Lib.hid hbw
    have hsw := hbw.size
    clear hbw
    by_cases hlt : k < xs.length
    · obtain ⟨ba, oa, rfl, hba, hc⟩ := at_cells HA.out HBW.out hlt
      obtain ⟨bb, ob, rfl, hbb, hd⟩ := at_cells HB.out HBW.out hlt
      generalize xs[k] = x at *
      have hba2 : ba < wr.heap.size := by omega
      have hbb2 : bb < wr.heap.size := by omega
      have hr := invEq_refl x
      obtain ⟨a0, a1, a2, a3⟩ := x
      have he := fun W => run_neq_inv a0 a1 a2 a3 a0 a1 a2 a3 W
      rw [hr] at he
      simp only [Bool.not_true] at he
      clear hr
      have c0 := hc 0 _ rfl
      have c1 := hc 1 _ rfl
      have c2 := hc 2 _ rfl
      have c3 := hc 3 _ rfl
      have d0 := hd 0 _ rfl
      have d1 := hd 1 _ rfl
      have d2 := hd 2 _ rfl
      have d3 := hd 3 _ rfl
      clear hc hd
      simp only [Nat.add_zero] at c0 d0
      have hki : (k : Int) < xs.length := by omega
      go_wp2_with fail
      refine wp_region_class (fun w' => Below (wr.heap.size) (wr) w') (by kernel_rfl) (by kernel_rfl) (Below.refl _ _).drew ?_
      repeat (first
        | (refine wpLex_pass (by rfl) passes_plain ?_; (conv => arg 9; simp only [put_lit, put_lit_none, List.set]))
        | (refine wpLex_plain (by rfl) ?_
           apply Exists.intro
           refine ⟨?_, ?_⟩
           · intro w' hb
             have hsz := hb.size
             try simp at hsz
             have hcw := fun b o (h : b < wr.heap.size) => hb.cell (p := ⟨b, o, none⟩) h
             have hfw := fun b o (h : b < wr.heap.size) => hb.frozen (p := ⟨b, o, none⟩) h
             go_simp
             first
               | exact ⟨rfl, hb⟩
               | exact rfl
           conv => arg 9; simp only [put_lit, put_lit_none, List.set]))
      refine wpLex_nil ?_
      intro wq hbq
      have hsq := hbq.size
      try simp at hsq
      have hcq := fun b o (h : b < wr.heap.size) => hbq.cell (p := ⟨b, o, none⟩) h
      have hfq := fun b o (h : b < wr.heap.size) => hbq.frozen (p := ⟨b, o, none⟩) h
      have HBq := Lib.hid hbq
      clear hbq
      clear c0 c1 c2 c3 d0 d1 d2 d3 hcq hfq
      go_wp2
      go_roundw
      case rel => exact ⟨k + 1, by omega, by go_num, (by repeat' (first | (with_reducible exact Below.refl _ _) | (with_reducible (refine Below.setCell ?_ ?_ _)) | (with_reducible (refine Below.alloc ?_ ?_ _)) | (with_reducible (refine Below.drew ?_)) | (with_reducible (refine below_via ?_ HBq.out ?_)) | (with_reducible (refine below_via ?_ HBW.out ?_)) | omega | (simp; done) | (simp; omega)))⟩
      case measure => simp [intOf]; omega
    · go_wp2
      go_ret
      exact ⟨rfl, HBW.out⟩

set_option maxRecDepth 100000 in
set_option maxHeartbeats 4000000 in
theorem Clone_inv (A : Option Addr) (c : Nat) (xs : List Inv) (w : World) (hn : xs.length ≤ 1000000) (hA : At w A 4 Inv.cells xs) :
    Calls Try.prog 92 #[.slice A xs.length c] w fun e w' => ∃ A' c', e = .returned (.slice A' xs.length c') ∧ Own w' w.heap.size invT 4 Inv.cells xs A' c' ∧ Below w.heap.size w w' := by
  cases A with
  | none =>
    have h0 : xs = [] := by
      cases xs with
      | nil => rfl
      | cons x l => obtain ⟨_, _, h, _⟩ := hA (by simp); cases h
    subst h0
    have he := fun (W : World) => Lib.run_eql_slice_nil (P := Try.prog) W _ _ none 0 c 0 0 Try.underlying23
    go_enter Try.func92, Try.ntmps92
    go_wp2
    go_ret
    exact ⟨_, _, rfl, World.ownsRow_nil _ _ _ _, Below.refl _ _⟩
  | some a =>
    obtain ⟨i0, hi0, hz0, hz1, hz2⟩ := info_parts inv_info
    have HA := Lib.hid hA
    have HOWN := Lib.hid (World.ownsRow_lit (base := w.heap.size) (size := 4) (e := invT) w #[] 0 (Nat.le_refl _) (by decide) rfl)
    have he := fun (W : World) => Lib.run_eql_slice_nil (P := Try.prog) W _ _ (some a) xs.length c 0 0 Try.underlying23
    simp only [Option.isNone] at he
    clear hA
    go_enter Try.func92, Try.ntmps92
    go_wp2_with (first
      | (at_builtin
         refine wpList_append_any _ rfl (.tmp 5) (.tmp 6) _ rfl w.heap.size invT i0 _ 4 32 Try.underlying23 hi0 hz0 hz1 hz2 rfl (by omega) _ 0 _ rfl HOWN.out (w.alloc (.cells #[] invT)).heap.size (some a) xs.length c (xs.flatMap Inv.cells) rfl
           ((HA.out.below ((Below.refl _ _).alloc (Nat.le_refl _) _)).reads inv_len) (by intro u hu; exact inv_one _ hu) (by simp only [maxLen]; omega) (by omega) (by simp) ?_
         intro v2 w2 hown2 hg2 hat2
         have HG2 := Lib.hid (below_grown1 hg2)
         have HO2 := Lib.hid hown2
         clear hown2 hg2 hat2))
    obtain ⟨A', c', rfl, ho⟩ := own_form (by simpa using HO2.out)
    go_ret
    exact ⟨A', c', rfl, ho, HG2.out⟩

end Go.Proofs.Ytbaninglcafhhaa
