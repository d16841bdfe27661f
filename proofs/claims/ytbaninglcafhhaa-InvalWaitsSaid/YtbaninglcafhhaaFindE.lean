/-
  The library's searches with a function of the program's in rows of entries, of what takes entries away. Conditions: the lengths fit.
-/
import Derived.Test.YtbaninglcafhhaaFind
namespace Go.Proofs.Ytbaninglcafhhaa
open Go.RowKit

set_option maxRecDepth 100000 in
set_option maxHeartbeats 4000000 in
theorem IndexFunc_inv0 (K : Nat) (p : Inv → Bool) (L : Option Addr) (cl : Nat) (l : List Inv) (w : World) (hl : l.length ≤ 140737488355328) (hL : At w L 4 Inv.cells l)
    (hK : ∀ (v : Value) (W : World), Sem.run Try.prog (callFunc K #[v]) W = .ok (.enter K #[v]) W)
    (hp : ∀ (W : World), ∀ x ∈ l, Below w.heap.size w W → Calls Try.prog K #[.agg (Inv.cells x).toArray] W fun e w' => e = .returned (.bool (p x)) ∧ Below W.heap.size W w') :
    Calls Try.prog 97 #[.slice L l.length cl, .func (.func K) #[] #[]] w fun e w' => e = .returned (.int .i64 (idx p l)) ∧ Below w.heap.size w w' := by
  have HP := Lib.hid hp
  have HL := Lib.hid hL
  clear hp hL
  go_enter Try.func97, Try.ntmps97
  go_wp2
  go_loopw [8] (fun i wr => ∃ k : Nat, k ≤ l.length ∧ i = .int .i64 k ∧ (l.take k).any p = false ∧ Below w.heap.size w wr) (fun i _ => l.length - (intOf i).toNat)
  case atStart => exact ⟨0, Nat.zero_le _, rfl, rfl, Below.refl _ _⟩
  case round =>
    obtain ⟨k, hk, rfl, ht, hbw⟩ := hrel
    have HT := Lib.hid ht
    clear ht
    have HBW := Lib.hid hbw
    have hsw := hbw.size
    clear hbw
    by_cases hlt : k < l.length
    · obtain ⟨b, off, rfl, hbl, hc⟩ := at_cells HL.out HBW.out hlt
      have hbr : b < wr.heap.size := by omega
      have HPX := Lib.hid (fun W (hb : Below wr.heap.size wr W) => HP.out W l[k] (List.getElem_mem hlt) ((by repeat' (first | (with_reducible exact Below.refl _ _) | (with_reducible (refine Below.setCell ?_ ?_ _)) | (with_reducible (refine Below.alloc ?_ ?_ _)) | (with_reducible (refine Below.drew ?_)) | (with_reducible (refine below_via ?_ hb ?_)) | (with_reducible (refine below_via ?_ HBW.out ?_)) | omega | (simp; done) | (simp; omega)))))
      obtain ⟨x, hxk⟩ : ∃ x, l[k] = x := ⟨_, rfl⟩
      rw [hxk] at hc HPX
      have HXK := Lib.hid hxk
      clear hxk
      obtain ⟨pv, hpv⟩ : ∃ pv, p x = pv := ⟨_, rfl⟩
      have HPV := Lib.hid hpv
      rw [hpv] at HPX
      clear hpv
      obtain ⟨a0, a1, a2, a3⟩ := x
      have HPY := Lib.hid (show ∀ (W : World), Below wr.heap.size wr W → Calls Try.prog K #[.agg #[.int .i64 a0, .int .i64 a1, .int .i64 a2, .int .i64 a3]] W fun e w' => e = .returned (.bool pv) ∧ Below W.heap.size W w' from HPX.out)
      clear HPX
      have c0 := hc 0 _ rfl
      have c1 := hc 1 _ rfl
      have c2 := hc 2 _ rfl
      have c3 := hc 3 _ rfl
      clear hc
      simp only [Nat.add_zero] at c0
      have hki : (k : Int) < l.length := by omega
      cases pv
      · go_wp2_with fail
        refine Calls.mono (HPY.out _ (Below.refl _ _)) ?_
        rintro e w1 ⟨rfl, hb1⟩
        have hs1 := hb1.size
        try simp at hs1
        have HB1 := Lib.hid hb1
        clear hb1
        clear c0 c1 c2 c3
        go_wp2
        go_roundw
        case rel => exact ⟨k + 1, by omega, by go_num, any_take_step HT.out hlt (by rw [HXK.out]; exact HPV.out), (by repeat' (first | (with_reducible exact Below.refl _ _) | (with_reducible (refine Below.setCell ?_ ?_ _)) | (with_reducible (refine Below.alloc ?_ ?_ _)) | (with_reducible (refine Below.drew ?_)) | (with_reducible (refine below_via ?_ HB1.out ?_)) | (with_reducible (refine below_via ?_ HBW.out ?_)) | omega | (simp; done) | (simp; omega)))⟩
        case measure => simp [intOf]; omega
      · go_wp2_with fail
        refine Calls.mono (HPY.out _ (Below.refl _ _)) ?_
        rintro e w1 ⟨rfl, hb1⟩
        have hs1 := hb1.size
        try simp at hs1
        have HB1 := Lib.hid hb1
        clear hb1
        clear c0 c1 c2 c3
        go_wp2
        go_ret
        exact ⟨by rw [idx_yes HT.out hlt (by rw [HXK.out]; exact HPV.out)]; rfl, (by repeat' (first | (with_reducible exact Below.refl _ _) | (with_reducible (refine Below.setCell ?_ ?_ _)) | (with_reducible (refine Below.alloc ?_ ?_ _)) | (with_reducible (refine Below.drew ?_)) | (with_reducible (refine below_via ?_ HB1.out ?_)) | (with_reducible (refine below_via ?_ HBW.out ?_)) | omega | (simp; done) | (simp; omega)))⟩
    · go_wp2
      go_ret
      exact ⟨by rw [idx_no HT.out (by omega)]; rfl, HBW.out⟩

set_option maxHeartbeats 1000000 in
theorem ContainsFunc_inv0 (K : Nat) (p : Inv → Bool) (L : Option Addr) (cl : Nat) (l : List Inv) (w : World) (hl : l.length ≤ 140737488355328) (hL : At w L 4 Inv.cells l)
    (hK : ∀ (v : Value) (W : World), Sem.run Try.prog (callFunc K #[v]) W = .ok (.enter K #[v]) W)
    (hp : ∀ (W : World), ∀ x ∈ l, Below w.heap.size w W → Calls Try.prog K #[.agg (Inv.cells x).toArray] W fun e w' => e = .returned (.bool (p x)) ∧ Below W.heap.size W w') :
    Calls Try.prog 75 #[.slice L l.length cl, .func (.func K) #[] #[]] w fun e w' => e = .returned (.bool (l.any p)) ∧ Below w.heap.size w w' := by
  have HI := Lib.hid (IndexFunc_inv0 K p L cl l w hl hL hK hp)
  have HG := Lib.hid (idx_ge p l)
  clear hp hL hK
  go_enter Try.func75, Try.ntmps75
  go_wp2_with fail
  refine Calls.mono (HI.out) ?_
  rintro e w1 ⟨rfl, hb1⟩
  have hs1 := hb1.size
  try simp at hs1
  have HB1 := Lib.hid hb1
  clear hb1
  generalize idx p l = ix at *
  go_wp2
  go_ret
  exact ⟨by rw [← HG.out]; rfl, HB1.out⟩

set_option maxRecDepth 100000 in
set_option maxHeartbeats 4000000 in
theorem IndexFunc_inv1 (K : Nat) (cap : Value) (p : Inv → Bool) (L : Option Addr) (cl : Nat) (l : List Inv) (w : World) (hl : l.length ≤ 140737488355328) (hL : At w L 4 Inv.cells l)
    (hK : ∀ (v : Value) (W : World), Sem.run Try.prog (callFunc K #[v, cap]) W = .ok (.enter K #[v, cap]) W)
    (hp : ∀ (W : World), ∀ x ∈ l, Below w.heap.size w W → Calls Try.prog K #[.agg (Inv.cells x).toArray, cap] W fun e w' => e = .returned (.bool (p x)) ∧ Below W.heap.size W w') :
    Calls Try.prog 97 #[.slice L l.length cl, .func (.func K) #[] #[cap]] w fun e w' => e = .returned (.int .i64 (idx p l)) ∧ Below w.heap.size w w' := by
  have HP := Lib.hid hp
  have HL := Lib.hid hL
  clear hp hL
  go_enter Try.func97, Try.ntmps97
  go_wp2
  go_loopw [8] (fun i wr => ∃ k : Nat, k ≤ l.length ∧ i = .int .i64 k ∧ (l.take k).any p = false ∧ Below w.heap.size w wr) (fun i _ => l.length - (intOf i).toNat)
  case atStart => exact ⟨0, Nat.zero_le _, rfl, rfl, Below.refl _ _⟩
  case round =>
    obtain ⟨k, hk, rfl, ht, hbw⟩ := hrel
    have HT := Lib.hid ht
    clear ht
    have HBW := Lib.hid hbw
    have hsw := hbw.size
    clear hbw
    by_cases hlt : k < l.length
    · obtain ⟨b, off, rfl, hbl, hc⟩ := at_cells HL.out HBW.out hlt
      have hbr : b < wr.heap.size := by omega
      have HPX := Lib.hid (fun W (hb : Below wr.heap.size wr W) => HP.out W l[k] (List.getElem_mem hlt) ((by repeat' (first | (with_reducible exact Below.refl _ _) | (with_reducible (refine Below.setCell ?_ ?_ _)) | (with_reducible (refine Below.alloc ?_ ?_ _)) | (with_reducible (refine Below.drew ?_)) | (with_reducible (refine below_via ?_ hb ?_)) | (with_reducible (refine below_via ?_ HBW.out ?_)) | omega | (simp; done) | (simp; omega)))))
      obtain ⟨x, hxk⟩ : ∃ x, l[k] = x := ⟨_, rfl⟩
      rw [hxk] at hc HPX
      have HXK := Lib.hid hxk
      clear hxk
      obtain ⟨pv, hpv⟩ : ∃ pv, p x = pv := ⟨_, rfl⟩
      have HPV := Lib.hid hpv
      rw [hpv] at HPX
      clear hpv
      obtain ⟨a0, a1, a2, a3⟩ := x
      have HPY := Lib.hid (show ∀ (W : World), Below wr.heap.size wr W → Calls Try.prog K #[.agg #[.int .i64 a0, .int .i64 a1, .int .i64 a2, .int .i64 a3], cap] W fun e w' => e = .returned (.bool pv) ∧ Below W.heap.size W w' from HPX.out)
      clear HPX
      have c0 := hc 0 _ rfl
      have c1 := hc 1 _ rfl
      have c2 := hc 2 _ rfl
      have c3 := hc 3 _ rfl
      clear hc
      simp only [Nat.add_zero] at c0
      have hki : (k : Int) < l.length := by omega
      cases pv
      · go_wp2_with fail
        refine Calls.mono (HPY.out _ (Below.refl _ _)) ?_
        rintro e w1 ⟨rfl, hb1⟩
        have hs1 := hb1.size
        try simp at hs1
        have HB1 := Lib.hid hb1
        clear hb1
        clear c0 c1 c2 c3
        go_wp2
        go_roundw
        case rel => exact ⟨k + 1, by omega, by go_num, any_take_step HT.out hlt (by rw [HXK.out]; exact HPV.out), (by repeat' (first | (with_reducible exact Below.refl _ _) | (with_reducible (refine Below.setCell ?_ ?_ _)) | (with_reducible (refine Below.alloc ?_ ?_ _)) | (with_reducible (refine Below.drew ?_)) | (with_reducible (refine below_via ?_ HB1.out ?_)) | (with_reducible (refine below_via ?_ HBW.out ?_)) | omega | (simp; done) | (simp; omega)))⟩
        case measure => simp [intOf]; omega
      · go_wp2_with fail
        refine Calls.mono (HPY.out _ (Below.refl _ _)) ?_
        rintro e w1 ⟨rfl, hb1⟩
        have hs1 := hb1.size
        try simp at hs1
        have HB1 := Lib.hid hb1
        clear hb1
        clear c0 c1 c2 c3
        go_wp2
        go_ret
        exact ⟨by rw [idx_yes HT.out hlt (by rw [HXK.out]; exact HPV.out)]; rfl, (by repeat' (first | (with_reducible exact Below.refl _ _) | (with_reducible (refine Below.setCell ?_ ?_ _)) | (with_reducible (refine Below.alloc ?_ ?_ _)) | (with_reducible (refine Below.drew ?_)) | (with_reducible (refine below_via ?_ HB1.out ?_)) | (with_reducible (refine below_via ?_ HBW.out ?_)) | omega | (simp; done) | (simp; omega)))⟩
    · go_wp2
      go_ret
      exact ⟨by rw [idx_no HT.out (by omega)]; rfl, HBW.out⟩

set_option maxHeartbeats 1000000 in
theorem ContainsFunc_inv1 (K : Nat) (cap : Value) (p : Inv → Bool) (L : Option Addr) (cl : Nat) (l : List Inv) (w : World) (hl : l.length ≤ 140737488355328) (hL : At w L 4 Inv.cells l)
    (hK : ∀ (v : Value) (W : World), Sem.run Try.prog (callFunc K #[v, cap]) W = .ok (.enter K #[v, cap]) W)
    (hp : ∀ (W : World), ∀ x ∈ l, Below w.heap.size w W → Calls Try.prog K #[.agg (Inv.cells x).toArray, cap] W fun e w' => e = .returned (.bool (p x)) ∧ Below W.heap.size W w') :
    Calls Try.prog 75 #[.slice L l.length cl, .func (.func K) #[] #[cap]] w fun e w' => e = .returned (.bool (l.any p)) ∧ Below w.heap.size w w' := by
  have HI := Lib.hid (IndexFunc_inv1 K cap p L cl l w hl hL hK hp)
  have HG := Lib.hid (idx_ge p l)
  clear hp hL hK
  go_enter Try.func75, Try.ntmps75
  go_wp2_with fail
  refine Calls.mono (HI.out) ?_
  rintro e w1 ⟨rfl, hb1⟩
  have hs1 := hb1.size
  try simp at hs1
  have HB1 := Lib.hid hb1
  clear hb1
  generalize idx p l = ix at *
  go_wp2
  go_ret
  exact ⟨by rw [← HG.out]; rfl, HB1.out⟩

set_option maxRecDepth 100000 in
set_option maxHeartbeats 4000000 in
theorem IndexFunc_ent1 (K : Nat) (cap : Value) (p : Ent → Bool) (L : Option Addr) (cl : Nat) (l : List Ent) (w : World) (hl : l.length ≤ 140737488355328) (hL : At w L 14 Ent.cells l)
    (hK : ∀ (v : Value) (W : World), Sem.run Try.prog (callFunc K #[v, cap]) W = .ok (.enter K #[v, cap]) W)
    (hp : ∀ (W : World), ∀ x ∈ l, Below w.heap.size w W → Calls Try.prog K #[.agg (Ent.cells x).toArray, cap] W fun e w' => e = .returned (.bool (p x)) ∧ Below W.heap.size W w') :
    Calls Try.prog 96 #[.slice L l.length cl, .func (.func K) #[] #[cap]] w fun e w' => e = .returned (.int .i64 (idx p l)) ∧ Below w.heap.size w w' := by
  have HP := Lib.hid hp
  have HL := Lib.hid hL
  clear hp hL
  go_enter Try.func96, Try.ntmps96
  go_wp2
  go_loopw [8] (fun i wr => ∃ k : Nat, k ≤ l.length ∧ i = .int .i64 k ∧ (l.take k).any p = false ∧ Below w.heap.size w wr) (fun i _ => l.length - (intOf i).toNat)
  case atStart => exact ⟨0, Nat.zero_le _, rfl, rfl, Below.refl _ _⟩
  case round =>
    obtain ⟨k, hk, rfl, ht, hbw⟩ := hrel
    have HT := Lib.hid ht
    clear ht
    have HBW := Lib.hid hbw
    have hsw := hbw.size
    clear hbw
    by_cases hlt : k < l.length
    · obtain ⟨b, off, rfl, hbl, hc⟩ := at_cells HL.out HBW.out hlt
      have hbr : b < wr.heap.size := by omega
      have HPX := Lib.hid (fun W (hb : Below wr.heap.size wr W) => HP.out W l[k] (List.getElem_mem hlt) ((by repeat' (first | (with_reducible exact Below.refl _ _) | (with_reducible (refine Below.setCell ?_ ?_ _)) | (with_reducible (refine Below.alloc ?_ ?_ _)) | (with_reducible (refine Below.drew ?_)) | (with_reducible (refine below_via ?_ hb ?_)) | (with_reducible (refine below_via ?_ HBW.out ?_)) | omega | (simp; done) | (simp; omega)))))
      obtain ⟨x, hxk⟩ : ∃ x, l[k] = x := ⟨_, rfl⟩
      rw [hxk] at hc HPX
      have HXK := Lib.hid hxk
      clear hxk
      obtain ⟨pv, hpv⟩ : ∃ pv, p x = pv := ⟨_, rfl⟩
      have HPV := Lib.hid hpv
      rw [hpv] at HPX
      clear hpv
      obtain ⟨a0, a1, a2, a3, a4, a5, a6, a7, a8, a9, a10, a11, a12, a13⟩ := x
      have HPY := Lib.hid (show ∀ (W : World), Below wr.heap.size wr W → Calls Try.prog K #[.agg #[.int .i64 a0, .int .i64 a1, .int .i64 a2, .bool a3, .int .i64 a4, .int .i64 a5, .int .i64 a6, .int .i64 a7, .bool a8, .bool a9, .bool a10, .bool a11, .bool a12, .int .i64 a13], cap] W fun e w' => e = .returned (.bool pv) ∧ Below W.heap.size W w' from HPX.out)
      clear HPX
      have c0 := hc 0 _ rfl
      have c1 := hc 1 _ rfl
      have c2 := hc 2 _ rfl
      have c3 := hc 3 _ rfl
      have c4 := hc 4 _ rfl
      have c5 := hc 5 _ rfl
      have c6 := hc 6 _ rfl
      have c7 := hc 7 _ rfl
      have c8 := hc 8 _ rfl
      have c9 := hc 9 _ rfl
      have c10 := hc 10 _ rfl
      have c11 := hc 11 _ rfl
      have c12 := hc 12 _ rfl
      have c13 := hc 13 _ rfl
      clear hc
      simp only [Nat.add_zero] at c0
      have hki : (k : Int) < l.length := by omega
      cases pv
      · go_wp2_with fail
        refine Calls.mono (HPY.out _ (Below.refl _ _)) ?_
        rintro e w1 ⟨rfl, hb1⟩
        have hs1 := hb1.size
        try simp at hs1
        have HB1 := Lib.hid hb1
        clear hb1
        clear c0 c1 c2 c3 c4 c5 c6 c7 c8 c9 c10 c11 c12 c13
        go_wp2
        go_roundw
        case rel => exact ⟨k + 1, by omega, by go_num, any_take_step HT.out hlt (by rw [HXK.out]; exact HPV.out), (by repeat' (first | (with_reducible exact Below.refl _ _) | (with_reducible (refine Below.setCell ?_ ?_ _)) | (with_reducible (refine Below.alloc ?_ ?_ _)) | (with_reducible (refine Below.drew ?_)) | (with_reducible (refine below_via ?_ HB1.out ?_)) | (with_reducible (refine below_via ?_ HBW.out ?_)) | omega | (simp; done) | (simp; omega)))⟩
        case measure => simp [intOf]; omega
      · go_wp2_with fail
        refine Calls.mono (HPY.out _ (Below.refl _ _)) ?_
        rintro e w1 ⟨rfl, hb1⟩
        have hs1 := hb1.size
        try simp at hs1
        have HB1 := Lib.hid hb1
        clear hb1
        clear c0 c1 c2 c3 c4 c5 c6 c7 c8 c9 c10 c11 c12 c13
        go_wp2
        go_ret
        exact ⟨by rw [idx_yes HT.out hlt (by rw [HXK.out]; exact HPV.out)]; rfl, (by repeat' (first | (with_reducible exact Below.refl _ _) | (with_reducible (refine Below.setCell ?_ ?_ _)) | (with_reducible (refine Below.alloc ?_ ?_ _)) | (with_reducible (refine Below.drew ?_)) | (with_reducible (refine below_via ?_ HB1.out ?_)) | (with_reducible (refine below_via ?_ HBW.out ?_)) | omega | (simp; done) | (simp; omega)))⟩
    · go_wp2
      go_ret
      exact ⟨by rw [idx_no HT.out (by omega)]; rfl, HBW.out⟩

end Go.Proofs.Ytbaninglcafhhaa
